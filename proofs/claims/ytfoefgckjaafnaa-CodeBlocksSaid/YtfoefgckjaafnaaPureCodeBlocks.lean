/- Proved: a block taken out of a program that can be, its places moved along, is a program that can be, too; no condition beyond the statement's own bounds. -/
import Derived.Test.YtfoefgckjaafnaaPCodeBlocksx8
namespace Go.Proofs.Ytfoefgckjaafnaa.Pure
open Go.RowKit Go.Proofs.Ytfoefgckjaafnaa.PCodeBlocks Go.Proofs.YtfoefgckjaafnaaW.PrintWords Go.Proofs.YtfoefgckjaafnaaW.PrintLast

--BEGIN code
theorem wrap_next (i n : Nat) (h : i < n) (hn : n ≤ 9223372036854775807) : wrap64 ((i : Int) + 1) = ((i + 1 : Nat) : Int) := by unfold wrap64; omega
theorem wrap_in (x : Int) (h0 : -9223372036854775808 ≤ x) (h1 : x ≤ 9223372036854775807) : wrap64 x = x := by unfold wrap64; omega
theorem Ev.eq {α : Type} {g : Nat → Option α} {r q : α} (h : Ev g r) (e : r = q) : Ev g q := e ▸ h
theorem rd_at {l : List S71} {i : Nat} {x : S71} {r : List S71} (h : l.drop i = x :: r) : rd_T71 l (i : Int) = x ∧ i < l.length ∧ l.drop (i + 1) = r := by
  have hi : i < l.length := by
    rcases Nat.lt_or_ge i l.length with h' | h'
    · exact h'
    · rw [List.drop_eq_nil_of_le h'] at h; cases h
  rw [List.drop_eq_getElem_cons hi] at h
  injection h with h1 h2
  refine ⟨?_, hi, h2⟩
  unfold rd_T71
  rw [Int.toNat_natCast, List.getD_eq_getElem?_getD, List.getElem?_eq_getElem hi]
  exact h1
theorem drop_end {l : List S71} {i : Nat} (h : l.drop i = []) (hi : i ≤ l.length) : i = l.length := by
  have := List.drop_eq_nil_iff.1 h
  omega

/-! fields, places -/
def inB (a b : Int) : Bool := decide (0 ≤ a) && decide (a < b)
theorem in_eq (a b : Int) : code_in.f a b = some (inB a b) := by
  unfold code_in.f inB
  by_cases h : a ≥ 0
  · rw [if_pos h]; simp [h]
  · rw [if_neg h]; simp [show ¬ 0 ≤ a by omega]
def isS (o : Option Bool) : Prop := ∃ r, o = some r
theorem isS_ite {c : Prop} [Decidable c] {a b : Option Bool} (h : isS a) (k : isS b) : isS (if c then a else b) := by
  split
  · exact h
  · exact k
theorem isS_some (b : Bool) : isS (some b) := ⟨b, rfl⟩
theorem things_total (a b c d : Int) : isS (code_things.f 1 a b c d) := by
  unfold code_things.f
  simp only [code_things.j0, in_eq, Option.bind_some]
  repeat' first | exact isS_some _ | apply isS_ite
theorem fields_total (a b c d : Int) : isS (code_fields.f 2 a b c d) := by
  obtain ⟨r, hr⟩ := things_total a b c d
  unfold code_fields.f
  simp only [code_fields.j0, in_eq, hr, Option.bind_some]
  repeat' first | exact isS_some _ | apply isS_ite
def fieldsB (x : S71) : Bool := (code_fields.f 2 x.f0 x.f1 x.f2 x.f3).getD false
theorem fields_ev (x : S71) : Ev (fun k => code_fields.f k x.f0 x.f1 x.f2 x.f3) (fieldsB x) := by
  obtain ⟨r, hr⟩ := fields_total x.f0 x.f1 x.f2 x.f3
  refine Ev.eq (Ev.of (fun k => code_fields.mono _ _ _ _ k) hr) ?_
  unfold fieldsB
  rw [hr]; rfl
def placedB (op : Int) (inside : Bool) : Bool := if op = 1 ∨ op = 2 ∨ op = 3 then true else if op = 0 ∨ op = 4 then !inside else inside
theorem placed_ev (op : Int) (b : Bool) : Ev (fun k => code_placed.f k op b) (placedB op b) := by
  refine Ev.of (fun k => code_placed.mono _ _ k) (k := 1) ?_
  unfold code_placed.f placedB
  simp only [code_placed.j0]
  by_cases h1 : op = 1
  · simp [h1]
  by_cases h2 : op = 2
  · simp [h2]
  by_cases h3 : op = 3
  · simp [h3]
  by_cases h0 : op = 0
  · simp [h0]
  by_cases h4 : op = 4
  · simp [h4]
  simp [h1, h2, h3, h0, h4]
def landsB (n : Nat) (sp : List Int) (i : Nat) (q : Int) : Bool :=
  if q ≤ (i : Int) ∨ q > (n : Int) then false else if q = (n : Int) then decide (sp.getD i 0 < 0) else sp.getD q.toNat 0 == sp.getD i 0
theorem lands_ev (l : List S71) (sp : List Int) (hs : sp.length = l.length) (i : Nat) (x : S71) (r : List S71) (h : l.drop i = x :: r) : Ev (fun k => code_lands.f k l sp (i : Int)) (landsB l.length sp i x.f1) := by
  obtain ⟨hx, hi, _⟩ := rd_at h
  refine Ev.of (fun k => code_lands.mono _ _ _ k) (k := 1) ?_
  unfold code_lands.f landsB
  simp only [code_lands.j0]
  rw [if_pos (by omega), if_pos (by omega), hx]
  by_cases h1 : x.f1 ≤ (i : Int)
  · rw [if_pos h1, if_pos (Or.inl h1)]; rfl
  rw [if_neg h1]
  by_cases h2 : x.f1 > (l.length : Int)
  · rw [if_pos (by simpa using h2), if_pos (Or.inr h2)]
  rw [if_neg (by simpa using h2), if_neg (show ¬ (x.f1 ≤ (i : Int) ∨ x.f1 > (l.length : Int)) by omega)]
  by_cases h3 : x.f1 = (l.length : Int)
  · rw [if_pos h3, if_pos h3, if_pos (by omega), if_pos (by omega)]
    unfold rd
    rw [Int.toNat_natCast]
  rw [if_neg h3, if_neg h3, if_pos (by omega), if_pos (by omega), if_pos (by omega), if_pos (by omega)]
  unfold rd
  rw [Int.toNat_natCast]

/-! spans -/
def spansGo : List S71 → Int → Nat → Option (List Int)
  | [], at_, _ => if at_ < 0 then some [] else none
  | x :: r, at_, i =>
    if x.f0 = 4 then (if at_ ≥ 0 then none else (spansGo r i (i + 1)).map (at_ :: ·))
    else if x.f0 = 5 then (if at_ < 0 then none else (spansGo r (-1) (i + 1)).map (at_ :: ·))
    else (spansGo r at_ (i + 1)).map (at_ :: ·)
theorem spansGo_length : ∀ (r : List S71) (at_ : Int) (i : Nat) (sp : List Int), spansGo r at_ i = some sp → sp.length = r.length
  | [], at_, i, sp, h => by
    unfold spansGo at h
    split at h
    · injection h with h; subst h; rfl
    · cases h
  | x :: r, at_, i, sp, h => by
    unfold spansGo at h
    have key : ∀ (a : Int), (spansGo r a (i + 1)).map (at_ :: ·) = some sp → sp.length = (x :: r).length := by
      intro a ha
      obtain ⟨q, hq, rfl⟩ := Option.map_eq_some_iff.1 ha
      simp [spansGo_length r _ _ q hq]
    split at h
    · split at h
      · cases h
      · exact key _ h
    · split at h
      · split at h
        · cases h
        · exact key _ h
      · exact key _ h
def spanRes (done : List Int) (o : Option (List Int)) (q : List Int × Bool) : Prop := match o with
  | some r => q = (done ++ r, true)
  | none => q.2 = false
theorem set_done (done : List Int) (m : Nat) (v : Int) : (done ++ List.replicate (m + 1) 0).set done.length v = (done ++ [v]) ++ List.replicate m 0 := by
  rw [List.set_append_right _ _ (Nat.le_refl _), Nat.sub_self, List.replicate_succ, List.set_cons_zero, List.append_assoc]; rfl
theorem spans_loop (l : List S71) (hl : l.length ≤ 48) : ∀ (r : List S71) (i : Nat) (at_ : Int) (done : List Int), l.drop i = r → i ≤ l.length → done.length = i →
    ∃ q, Ev (fun k => code_spans.l0 k (done ++ List.replicate r.length 0) at_ l (l.length : Int) (i : Int)) q ∧ spanRes done (spansGo r at_ i) q
  | [], i, at_, done, h, hi, hd => by
    have hi' := drop_end h hi
    refine ⟨(done ++ List.replicate 0 0, decide (at_ < 0)), Ev.step (f := fun _ => some (done ++ List.replicate 0 0, decide (at_ < 0))) (fun k => ?_) (Ev.now _), ?_⟩
    · simp only [code_spans.l0]
      rw [if_neg (by omega)]; rfl
    · unfold spansGo spanRes
      by_cases ha : at_ < 0
      · rw [if_pos ha]; simp [ha]
      · rw [if_neg ha]; simp [ha]
  | x :: r, i, at_, done, h, hi, hd => by
    obtain ⟨hx, hlt, hr⟩ := rd_at h
    have hlen : r.length + 1 = l.length - i := by rw [← List.length_drop, h]; rfl
    have ih := fun a => spans_loop l hl r (i + 1) a (done ++ [at_]) hr (by omega) (by rw [List.length_append, hd]; rfl)
    have hset : (done ++ List.replicate (x :: r).length 0).set (i : Int).toNat at_ = (done ++ [at_]) ++ List.replicate r.length 0 := by
      rw [Int.toNat_natCast, ← hd]; exact set_done done r.length at_
    have hw := wrap_next i l.length hlt (by omega)
    have st : ∀ k, code_spans.l0 (k + 1) (done ++ List.replicate (x :: r).length 0) at_ l (l.length : Int) (i : Int) =
        (if x.f0 = 4 then (if at_ ≥ 0 then (some (([] : List Int), false)) else (code_spans.l0 k ((done ++ [at_]) ++ List.replicate r.length 0) (i : Int) l (l.length : Int) ((i + 1 : Nat) : Int)))
        else (if x.f0 = 5 then (if at_ < 0 then (some (([] : List Int), false)) else (code_spans.l0 k ((done ++ [at_]) ++ List.replicate r.length 0) (-1) l (l.length : Int) ((i + 1 : Nat) : Int)))
        else (code_spans.l0 k ((done ++ [at_]) ++ List.replicate r.length 0) at_ l (l.length : Int) ((i + 1 : Nat) : Int)))) := by
      intro k
      simp only [code_spans.l0]
      rw [if_pos (by omega), if_pos (by omega), if_pos (by omega), if_pos (by rw [List.length_append, List.length_replicate, hd]; simp; omega), Option.bind_some, hx, hset, hw]
    have go : ∀ a q, spanRes (done ++ [at_]) (spansGo r a (i + 1)) q → spanRes done ((spansGo r a (i + 1)).map (at_ :: ·)) q := by
      intro a q hq
      cases hs : spansGo r a (i + 1) with
      | none => rw [hs] at hq; exact hq
      | some s => rw [hs] at hq; unfold spanRes at hq ⊢; rw [hq]; simp
    unfold spansGo
    by_cases h4 : x.f0 = 4
    · rw [if_pos h4]
      by_cases ha : at_ ≥ 0
      · rw [if_pos ha]
        exact ⟨([], false), Ev.step (fun k => by rw [st, if_pos h4, if_pos ha]) (Ev.now _), rfl⟩
      · rw [if_neg ha]
        obtain ⟨q, hq, hs⟩ := ih (i : Int)
        exact ⟨q, Ev.step (fun k => by rw [st, if_pos h4, if_neg ha]) hq, go _ q hs⟩
    · rw [if_neg h4]
      by_cases h5 : x.f0 = 5
      · rw [if_pos h5]
        by_cases ha : at_ < 0
        · rw [if_pos ha]
          exact ⟨([], false), Ev.step (fun k => by rw [st, if_neg h4, if_pos h5, if_pos ha]) (Ev.now _), rfl⟩
        · rw [if_neg ha]
          obtain ⟨q, hq, hs⟩ := ih (-1)
          exact ⟨q, Ev.step (fun k => by rw [st, if_neg h4, if_pos h5, if_neg ha]) hq, go _ q hs⟩
      · rw [if_neg h5]
        obtain ⟨q, hq, hs⟩ := ih at_
        exact ⟨q, Ev.step (fun k => by rw [st, if_neg h4, if_neg h5]) hq, go _ q hs⟩
theorem spans_ev (l : List S71) (hl : l.length ≤ 48) : ∃ q, Ev (fun k => code_spans.f k l) q ∧ spanRes [] (spansGo l (-1) 0) q := by
  obtain ⟨q, hq, hs⟩ := spans_loop l hl l 0 (-1) [] rfl (by omega) rfl
  refine ⟨q, Ev.congr (fun k => ?_) hq, hs⟩
  unfold code_spans.f
  rw [if_pos (by omega), if_pos (by rw [Int.toNat_natCast]; omega), Int.toNat_natCast]
  rfl

/-! the rounds of Check -/
def late (op : Int) : Bool := decide (op = 14) || decide (op = 19) || decide (op = 20) || decide (op = 21)
def sure1 (x : S71) (sure : Bool) : Bool := if x.f0 = 4 then false else sure
def ways1 (x : S71) (ways : Int) : Int := if x.f0 = 4 then 0 else if x.f0 = 20 then ways + 1 else ways
/-- whether an instruction can stand there -/
def stands (n : Nat) (sp : List Int) (x : S71) (i : Nat) (sure : Bool) (ways : Int) : Bool :=
  fieldsB x && placedB x.f0 (decide (sp.getD i 0 ≥ 0)) && (!(decide (x.f0 = 3) || decide (x.f0 = 20)) || landsB n sp i x.f1) && decide (ways1 x ways ≤ 3) && !(sure1 x sure && late x.f0)
def chkGo (n : Nat) (sp : List Int) : List S71 → Nat → Bool → Int → Int × Int
  | [], _, _, _ => (0, 0)
  | x :: r, i, sure, ways => if stands n sp x i sure ways then chkGo n sp r (i + 1) (sure1 x sure || decide (x.f0 = 21)) (ways1 x ways) else ((i : Int), 11)
theorem chk_ev (l : List S71) (hl : l.length ≤ 48) (sp : List Int) (hs : sp.length = l.length) : ∀ (r : List S71) (i : Nat) (sure : Bool) (ways : Int), l.drop i = r → i ≤ l.length → 0 ≤ ways → ways ≤ 3 →
    Ev (fun k => code_Check.l0 k l sp sure ways l (l.length : Int) (i : Int)) (chkGo l.length sp r i sure ways)
  | [], i, sure, ways, h, hi, _, _ => by
    have hi' := drop_end h hi
    refine Ev.step (f := fun _ => some (0, 0)) (fun k => ?_) (Ev.now _)
    simp only [code_Check.l0]
    rw [if_neg (by omega)]
  | x :: r, i, sure, ways, h, hi, hw0, hw3 => by
    obtain ⟨hx, hlt, hr⟩ := rd_at h
    have hw := wrap_next i l.length hlt (by omega)
    have fail : ∀ (rest : Int × Int), stands l.length sp x i sure ways = false → chkGo l.length sp (x :: r) i sure ways = ((i : Int), 11) := fun _ e => by
      unfold chkGo; rw [if_neg (by simp [e])]
    have e0 : ∀ k, code_Check.l0 (k + 1) l sp sure ways l (l.length : Int) (i : Int) = (code_fields.f k x.f0 x.f1 x.f2 x.f3).bind fun t148 => (if t148 = true then (if (i : Int) < (sp.length : Int) then ((code_placed.f k x.f0 (decide ((rd sp (i : Int)) ≥ 0))).bind fun t150 => (code_Check.j1 k l sp sure ways (i : Int) l (l.length : Int) (i : Int) (!t150) x.f0 x.f1 x.f2 x.f3)) else (none)) else (code_Check.j1 k l sp sure ways (i : Int) l (l.length : Int) (i : Int) true x.f0 x.f1 x.f2 x.f3)) := by
      intro k
      simp only [code_Check.l0]
      rw [if_pos (by omega), if_pos (by omega), if_pos (by omega), hx]
    refine Ev.step e0 (Ev.bind (fields_ev x) ?_)
    have j1no : Ev (fun k => code_Check.j1 k l sp sure ways (i : Int) l (l.length : Int) (i : Int) true x.f0 x.f1 x.f2 x.f3) ((i : Int), 11) :=
      Ev.step (f := fun _ => some ((i : Int), 11)) (fun k => by simp only [code_Check.j1]; rw [if_pos trivial]) (Ev.now _)
    by_cases hf : ¬ fieldsB x = true
    · rw [fail (0, 0) (by unfold stands; simp [hf])]
      exact Ev.congr (fun k => if_neg hf) j1no
    rw [Decidable.not_not] at hf
    refine Ev.congr (fun k => by rw [if_pos hf, if_pos (by omega)]) (Ev.bind (placed_ev _ _) ?_)
    have erd : rd sp (i : Int) = sp.getD i 0 := by unfold rd; rw [Int.toNat_natCast]
    rw [erd]
    by_cases hp : ¬ placedB x.f0 (decide (sp.getD i 0 ≥ 0)) = true
    · rw [fail (0, 0) (by unfold stands; simp only [hf, Bool.true_and, Bool.and_eq_false_iff]; left; left; left; simpa using hp)]
      rw [Bool.not_eq_true] at hp
      rw [hp]
      exact j1no
    rw [Decidable.not_not] at hp
    rw [hp]
    -- the last looks
    have j4 : ∀ s w, s = sure1 x sure → w = ways1 x ways → (!(decide (x.f0 = 3) || decide (x.f0 = 20)) || landsB l.length sp i x.f1) = true →
        Ev (fun k => code_Check.j4 k l sp s w (i : Int) l (l.length : Int) (i : Int) x.f0 x.f1 x.f2 x.f3) (chkGo l.length sp (x :: r) i sure ways) := by
      intro s w es ew hland
      have ihh := fun (hb : ways1 x ways ≤ 3) => chk_ev l hl sp hs r (i + 1) (sure1 x sure || decide (x.f0 = 21)) (ways1 x ways) hr (by omega) (by unfold ways1; split <;> (try split) <;> omega) hb
      by_cases hb : w > 3
      · rw [fail (0, 0) (by unfold stands; rw [← ew]; simp [show ¬ w ≤ 3 by omega])]
        exact Ev.step (f := fun _ => some ((i : Int), 11)) (fun k => by simp only [code_Check.j4]; rw [if_pos hb]) (Ev.now _)
      have hb' : ways1 x ways ≤ 3 := by omega
      by_cases hl' : (s && late x.f0) = true
      · rw [fail (0, 0) (by unfold stands; rw [← es, hl']; simp)]
        rw [Bool.and_eq_true] at hl'
        refine Ev.step (f := fun _ => some ((i : Int), 11)) (fun k => ?_) (Ev.now _)
        simp only [code_Check.j4]
        rw [if_neg hb, if_pos hl'.1]
        have := hl'.2
        unfold late at this
        simp only [Bool.or_eq_true, decide_eq_true_eq] at this
        rcases this with ((h | h) | h) | h
        · rw [if_pos h]
        · rw [if_neg (by omega), if_pos h]
        · rw [if_neg (by omega), if_neg (by omega), if_pos h]
        · rw [if_neg (by omega), if_neg (by omega), if_neg (by omega), if_pos h]
      · have hst : stands l.length sp x i sure ways = true := by
          unfold stands
          rw [hf, hp, hland, ← es]
          simp only [Bool.and_true, Bool.true_and, decide_eq_true_eq, Bool.and_eq_true]
          refine ⟨hb', ?_⟩
          rw [Bool.not_eq_true] at hl'
          rw [hl']; rfl
        have e1 : chkGo l.length sp (x :: r) i sure ways = chkGo l.length sp r (i + 1) (sure1 x sure || decide (x.f0 = 21)) (ways1 x ways) := by
          conv => lhs; unfold chkGo
          rw [if_pos hst]
        rw [e1]
        refine Ev.step (f := fun k => code_Check.l0 k l sp (sure1 x sure || decide (x.f0 = 21)) (ways1 x ways) l (l.length : Int) ((i + 1 : Nat) : Int)) (fun k => ?_) (ihh hb')
        simp only [code_Check.j4]
        rw [if_neg hb, hw, ← es, ← ew]
        by_cases hsr : s = true
        · rw [if_pos hsr]
          have hn : late x.f0 = false := by
            rw [hsr] at hl'; simpa using hl'
          unfold late at hn
          simp only [Bool.or_eq_false_iff, decide_eq_false_iff_not] at hn
          rw [if_neg hn.1.1.1, if_neg hn.1.1.2, if_neg hn.1.2, if_neg hn.2, hsr]
          simp
        · rw [if_neg hsr]
          have : s = false := by simpa using hsr
          rw [this, Bool.false_or]
          rfl
    have j3 : ∀ s w, s = sure1 x sure → w = (if x.f0 = 4 then 0 else ways) → (!(decide (x.f0 = 3) || decide (x.f0 = 20)) || landsB l.length sp i x.f1) = true →
        Ev (fun k => code_Check.j3 k l sp s w (i : Int) l (l.length : Int) (i : Int) x.f0 x.f1 x.f2 x.f3) (chkGo l.length sp (x :: r) i sure ways) := by
      intro s w es ew hland
      by_cases h20 : x.f0 = 20
      · refine Ev.step (fun k => by simp only [code_Check.j3]; rw [if_pos h20]) (j4 _ _ es ?_ hland)
        rw [ew, if_neg (by omega), wrap_in _ (by omega) (by omega)]
        unfold ways1; rw [if_neg (by omega), if_pos h20]
      · refine Ev.step (fun k => by simp only [code_Check.j3]; rw [if_neg h20]) (j4 _ _ es ?_ hland)
        rw [ew]; unfold ways1
        by_cases h4 : x.f0 = 4
        · rw [if_pos h4, if_pos h4]
        · rw [if_neg h4, if_neg h4, if_neg h20]
    refine Ev.step (f := fun k => code_Check.j2 k l sp sure ways (i : Int) l (l.length : Int) (i : Int) x.f0 (decide (x.f0 = 3) || decide (x.f0 = 20)) x.f0 x.f1 x.f2 x.f3) (fun k => ?_) ?_
    · simp only [code_Check.j1]
      rw [if_neg (by simp)]
      by_cases h3 : x.f0 = 3
      · rw [if_pos h3]; simp [h3]
      · rw [if_neg h3]; simp [h3]; rfl
    by_cases hjl : (decide (x.f0 = 3) || decide (x.f0 = 20)) = true
    · refine Ev.step (fun k => by simp only [code_Check.j2]; rw [if_pos hjl]) (Ev.bind (lands_ev l sp hs i x r h) ?_)
      have hn4 : ¬ x.f0 = 4 := by
        simp only [Bool.or_eq_true, decide_eq_true_eq] at hjl; omega
      by_cases hla : landsB l.length sp i x.f1 = true
      · exact Ev.congr (fun k => if_pos hla) (j3 _ _ (by unfold sure1; rw [if_neg hn4]) (by rw [if_neg hn4]) (by rw [hla]; simp))
      · rw [fail (0, 0) (by unfold stands; rw [hjl]; simp [hla])]
        exact Ev.congr (fun k => if_neg hla) (Ev.now _)
    · have hland : (!(decide (x.f0 = 3) || decide (x.f0 = 20)) || landsB l.length sp i x.f1) = true := by
        rw [Bool.not_eq_true] at hjl; rw [hjl]; rfl
      by_cases h4 : x.f0 = 4
      · exact Ev.step (fun k => by simp only [code_Check.j2]; rw [if_neg hjl, if_pos h4]) (j3 _ _ (by unfold sure1; rw [if_pos h4]) (by rw [if_pos h4]) hland)
      · exact Ev.step (fun k => by simp only [code_Check.j2]; rw [if_neg hjl, if_neg h4]) (j3 _ _ (by unfold sure1; rw [if_neg h4]) (by rw [if_neg h4]) hland)
theorem chk_ok {n : Nat} {sp : List Int} {x : S71} {r : List S71} {i : Nat} {sure : Bool} {ways : Int} (h : (chkGo n sp (x :: r) i sure ways).2 = 0) :
    stands n sp x i sure ways = true ∧ (chkGo n sp r (i + 1) (sure1 x sure || decide (x.f0 = 21)) (ways1 x ways)).2 = 0 := by
  unfold chkGo at h
  by_cases hs : stands n sp x i sure ways = true
  · rw [if_pos hs] at h; exact ⟨hs, h⟩
  · rw [if_neg hs] at h; exact absurd h (by simp)
theorem stands_parts {n : Nat} {sp : List Int} {x : S71} {i : Nat} {sure : Bool} {ways : Int} (h : stands n sp x i sure ways = true) :
    fieldsB x = true ∧ placedB x.f0 (decide (sp.getD i 0 ≥ 0)) = true ∧ ((x.f0 = 3 ∨ x.f0 = 20) → landsB n sp i x.f1 = true) ∧ ways1 x ways ≤ 3 ∧ ¬ (sure1 x sure = true ∧ late x.f0 = true) := by
  unfold stands at h
  simp only [Bool.and_eq_true, Bool.or_eq_true, Bool.not_eq_true', decide_eq_true_eq, Bool.or_eq_false_iff, decide_eq_false_iff_not, Bool.and_eq_false_iff] at h
  obtain ⟨⟨⟨⟨h1, h2⟩, h3⟩, h4⟩, h5⟩ := h
  refine ⟨h1, h2, fun hj => ?_, h4, fun ⟨a, b⟩ => ?_⟩
  · rcases h3 with h3 | h3
    · omega
    · exact h3
  · rcases h5 with h5 | h5
    · rw [h5] at a; cases a
    · rw [h5] at b; cases b
def checkL (l : List S71) : Int × Int :=
  if l.length > 48 then (0, 3) else match spansGo l (-1) 0 with
    | none => (0, 11)
    | some sp => chkGo l.length sp l 0 false 0
theorem check_ev (l : List S71) : Ev (fun k => code_Check.f k l) (checkL l) := by
  unfold code_Check.f checkL
  by_cases h : l.length > 48
  · rw [if_pos h]; exact Ev.congr (fun k => if_pos (by omega)) (Ev.now _)
  rw [if_neg h]
  refine Ev.congr (fun k => if_neg (by omega)) ?_
  obtain ⟨q, hq, hs⟩ := spans_ev l (by omega)
  refine Ev.bind hq ?_
  cases hg : spansGo l (-1) 0 with
  | none =>
    rw [hg] at hs
    unfold spanRes at hs
    exact Ev.congr (fun k => if_neg (by rw [hs]; simp)) (Ev.now _)
  | some sp =>
    rw [hg] at hs
    unfold spanRes at hs
    subst hs
    refine Ev.congr (fun k => if_pos rfl) ?_
    have := chk_ev l (by omega) sp (spansGo_length _ _ _ _ hg) l 0 false 0 rfl (by omega) (by omega) (by omega)
    exact this
def blocksL (l : List S71) : Nat := l.countP (fun x => decide (x.f0 = 4))
theorem blocks_loop (l : List S71) (hl : l.length ≤ 4611686018427387904) : ∀ (r : List S71) (i n : Nat), l.drop i = r → i ≤ l.length → n ≤ i → Ev (fun k => code_Blocks.l0 k (n : Int) l (l.length : Int) (i : Int)) ((n + blocksL r : Nat) : Int)
  | [], i, n, h, hi, hn => by
    have hi' := drop_end h hi
    refine Ev.step (f := fun _ => some (n : Int)) (fun k => ?_) (Ev.eq (Ev.now _) (by simp [blocksL]))
    simp only [code_Blocks.l0]
    rw [if_neg (by omega)]
  | x :: r, i, n, h, hi, hn => by
    obtain ⟨hx, hlt, hr⟩ := rd_at h
    have hw := wrap_next i l.length hlt (by omega)
    have hw2 := wrap_next n l.length (by omega) (by omega)
    by_cases h4 : x.f0 = 4
    · refine Ev.step (f := fun k => code_Blocks.l0 k ((n + 1 : Nat) : Int) l (l.length : Int) ((i + 1 : Nat) : Int)) (fun k => ?_) (Ev.eq (blocks_loop l hl r (i + 1) (n + 1) hr (by omega) (by omega)) ?_)
      · simp only [code_Blocks.l0]
        rw [if_pos (by omega), if_pos (by omega), if_pos (by omega), hx, if_pos h4, hw, hw2]
      · unfold blocksL; rw [List.countP_cons_of_pos (by simpa using h4)]; omega
    · refine Ev.step (f := fun k => code_Blocks.l0 k (n : Int) l (l.length : Int) ((i + 1 : Nat) : Int)) (fun k => ?_) (Ev.eq (blocks_loop l hl r (i + 1) n hr (by omega) (by omega)) ?_)
      · simp only [code_Blocks.l0]
        rw [if_pos (by omega), if_pos (by omega), if_pos (by omega), hx, if_neg h4, hw]
      · unfold blocksL; rw [List.countP_cons_of_neg (by simpa using h4)]
theorem blocks_ev (l : List S71) (hl : l.length ≤ 4611686018427387904) : Ev (fun k => code_Blocks.f k l) ((blocksL l : Nat) : Int) := by
  have := blocks_loop l hl l 0 0 rfl (by omega) (by omega)
  refine Ev.congr (fun k => rfl) (Ev.eq this (by omega))
theorem alive_ev : Ev (fun k => countermandlaw07_alive.f k) true := by
  unfold countermandlaw07_alive.f
  refine Ev.bind (check_ev _) (Ev.bind (check_ev _) ?_)
  have e1 : (checkL [⟨4, 0, 0, 0⟩, ⟨5, 0, 0, 0⟩]).2 = 0 := by decide +kernel
  have e2 : (checkL [⟨4, 0, 0, 0⟩]).2 = 11 := by decide +kernel
  refine Ev.congr (fun k => by rw [if_pos e1, if_pos e2]) (Ev.bind (blocks_ev _ (by decide)) ?_)
  exact Ev.congr (fun k => by rfl) (Ev.now _)
--END code

/-! a block taken out -/
def dn (a : Int) (x : S71) : S71 := if x.f0 = 3 ∨ x.f0 = 20 then ⟨x.f0, x.f1 - a, x.f2, x.f3⟩ else x
theorem dn_f0 (a : Int) (x : S71) : (dn a x).f0 = x.f0 := by unfold dn; split <;> rfl
theorem dn_fields (a : Int) (x : S71) : fieldsB (dn a x) = fieldsB x := by
  unfold dn
  by_cases h : x.f0 = 3 ∨ x.f0 = 20
  · rw [if_pos h]
    unfold fieldsB code_fields.f
    rcases h with h | h
    · simp only [code_fields.j0, in_eq, Option.bind_some, h]; rfl
    · simp only [code_fields.j0, in_eq, Option.bind_some, h]; rfl
  · rw [if_neg h]
def takeB : List S71 → List S71
  | [] => []
  | x :: r => if x.f0 = 5 then [x] else x :: takeB r
theorem takeB_cons (x : S71) (r : List S71) : takeB (x :: r) = x :: (if x.f0 = 5 then [] else takeB r) := by
  conv => lhs; unfold takeB
  split <;> rfl
theorem spans_cons {x : S71} {r : List S71} {a : Int} {i : Nat} {s : List Int} (h : spansGo (x :: r) a i = some s) :
    ∃ s', s = a :: s' ∧ ((x.f0 = 4 ∧ a < 0 ∧ spansGo r (i : Int) (i + 1) = some s') ∨ (x.f0 = 5 ∧ 0 ≤ a ∧ spansGo r (-1) (i + 1) = some s') ∨ (¬ x.f0 = 4 ∧ ¬ x.f0 = 5 ∧ spansGo r a (i + 1) = some s')) := by
  unfold spansGo at h
  split at h
  · rename_i h4
    split at h
    · cases h
    · obtain ⟨q, hq, rfl⟩ := Option.map_eq_some_iff.1 h
      exact ⟨q, rfl, .inl ⟨h4, by omega, hq⟩⟩
  · rename_i h4
    split at h
    · rename_i h5
      split at h
      · cases h
      · obtain ⟨q, hq, rfl⟩ := Option.map_eq_some_iff.1 h
        exact ⟨q, rfl, .inr (.inl ⟨h5, by omega, hq⟩)⟩
    · rename_i h5
      obtain ⟨q, hq, rfl⟩ := Option.map_eq_some_iff.1 h
      exact ⟨q, rfl, .inr (.inr ⟨h4, h5, hq⟩)⟩
theorem spans_drop : ∀ (m : Nat) (r : List S71) (a : Int) (i : Nat) (s : List Int), spansGo r a i = some s → m ≤ r.length → ∃ b, spansGo (r.drop m) b (i + m) = some (s.drop m)
  | 0, r, a, i, s, h, _ => ⟨a, h⟩
  | m + 1, [], a, i, s, h, hm => by simp at hm
  | m + 1, x :: r, a, i, s, h, hm => by
    obtain ⟨s', rfl, hc⟩ := spans_cons h
    have e : i + (m + 1) = i + 1 + m := by omega
    rw [List.drop_succ_cons, List.drop_succ_cons, e]
    have hm' : m ≤ r.length := by simpa using hm
    rcases hc with ⟨_, _, h'⟩ | ⟨_, _, h'⟩ | ⟨_, _, h'⟩
    · exact spans_drop m r _ _ s' h' hm'
    · exact spans_drop m r _ _ s' h' hm'
    · exact spans_drop m r _ _ s' h' hm'
theorem spans_vals : ∀ (r : List S71) (a : Int) (i : Nat) (s : List Int), spansGo r a i = some s → ∀ y ∈ s, y = a ∨ y = -1 ∨ (i : Int) ≤ y
  | [], a, i, s, h => by
    unfold spansGo at h
    split at h
    · injection h with h; subst h; simp
    · cases h
  | x :: r, a, i, s, h => by
    obtain ⟨s', rfl, hc⟩ := spans_cons h
    intro y hy
    rcases List.mem_cons.1 hy with rfl | hy
    · exact .inl rfl
    · rcases hc with ⟨_, _, h'⟩ | ⟨_, _, h'⟩ | ⟨_, _, h'⟩
      · rcases spans_vals r _ _ s' h' y hy with h | h | h
        · right; right; omega
        · exact .inr (.inl h)
        · right; right; omega
      · rcases spans_vals r _ _ s' h' y hy with h | h | h
        · exact .inr (.inl h)
        · exact .inr (.inl h)
        · right; right; omega
      · rcases spans_vals r _ _ s' h' y hy with h | h | h
        · exact .inl h
        · exact .inr (.inl h)
        · right; right; omega
/-- what stands inside a block, up to its End -/
theorem block_in (a : Int) (ha : 0 ≤ a) : ∀ (r : List S71) (i : Nat) (s : List Int), spansGo r a i = some s → a < (i : Int) →
    (∃ x ∈ r, x.f0 = 5) ∧ (takeB r).length ≤ r.length ∧ (∀ m, m < (takeB r).length → s.getD m 0 = a) ∧ (∀ m, (takeB r).length ≤ m → m < s.length → s.getD m 0 ≠ a) ∧
      (∀ j, spansGo ((takeB r).map (dn a)) 0 j = some (List.replicate (takeB r).length 0)) ∧ (∀ x ∈ takeB r, ¬ x.f0 = 4)
  | [], i, s, h, hi => by
    unfold spansGo at h
    rw [if_neg (by omega)] at h
    cases h
  | x :: r, i, s, h, hi => by
    obtain ⟨s', rfl, hc⟩ := spans_cons h
    rcases hc with ⟨_, h2, _⟩ | ⟨h5, _, h'⟩ | ⟨h4, h5, h'⟩
    · omega
    · have e : takeB (x :: r) = [x] := by unfold takeB; rw [if_pos h5]
      rw [e]
      refine ⟨⟨x, List.mem_cons_self, h5⟩, by simp, fun m hm => ?_, fun m hm hm2 => ?_, fun j => ?_, fun y hy => ?_⟩
      · have : m = 0 := by simpa using hm
        subst this; rfl
      · obtain ⟨m', rfl⟩ : ∃ m', m = m' + 1 := ⟨m - 1, by simp at hm; omega⟩
        rw [List.getD_cons_succ]
        have hm3 : m' < s'.length := by simpa using hm2
        have hmem : s'.getD m' 0 ∈ s' := by
          rw [List.getD_eq_getElem?_getD, List.getElem?_eq_getElem hm3]; exact List.getElem_mem hm3
        rcases spans_vals r _ _ s' h' _ hmem with h | h | h <;> omega
      · show spansGo [dn a x] 0 j = some [0]
        unfold spansGo
        rw [dn_f0, if_neg (by omega), if_pos h5, if_neg (by omega)]
        rfl
      · rw [List.mem_singleton.1 hy]; omega
    · obtain ⟨⟨z, hz, hz5⟩, g1, g2, g3, g4, g5⟩ := block_in a ha r (i + 1) s' h' (by omega)
      have e : takeB (x :: r) = x :: takeB r := by rw [takeB_cons, if_neg h5]
      rw [e]
      refine ⟨⟨z, List.mem_cons_of_mem _ hz, hz5⟩, by simpa using g1, fun m hm => ?_, fun m hm hm2 => ?_, fun j => ?_, fun y hy => ?_⟩
      · cases m with
        | zero => rfl
        | succ m => rw [List.getD_cons_succ]; exact g2 m (by simpa using hm)
      · cases m with
        | zero => simp at hm
        | succ m => rw [List.getD_cons_succ]; exact g3 m (by simpa using hm) (by simpa using hm2)
      · rw [List.map_cons]
        unfold spansGo
        rw [dn_f0, if_neg h4, if_neg h5, g4 (j + 1)]
        rfl
      · rcases List.mem_cons.1 hy with rfl | hy
        · exact h4
        · exact g5 y hy
theorem rep_get (n m : Nat) (h : m < n) : (List.replicate n (0 : Int)).getD m 0 = 0 := by
  rw [List.getD_eq_getElem?_getD, List.getElem?_replicate, if_pos h]; rfl
/-- Check's rounds go on in the block as they did in the program -/
theorem chk_block {n : Nat} {sp : List Int} (hs : sp.length = n) (a nb : Nat)
    (hin : ∀ m, a < m → m < a + nb → sp.getD m 0 = (a : Int)) (hout : ∀ m, a + nb ≤ m → m < n → sp.getD m 0 ≠ (a : Int)) :
    ∀ (r : List S71) (i : Nat) (sure : Bool) (ways : Int), a < i → i + (takeB r).length = a + nb → a + nb ≤ n → (chkGo n sp r i sure ways).2 = 0 →
      (chkGo nb (-1 :: List.replicate (nb - 1) 0) ((takeB r).map (dn a)) (i - a) sure ways).2 = 0
  | [], _, _, _, _, _, _, _ => rfl
  | x :: r, i, sure, ways, hi, hn, hle, h => by
    obtain ⟨hst, h'⟩ := chk_ok h
    obtain ⟨h1, h2, h3, h4, h5⟩ := stands_parts hst
    rw [takeB_cons] at hn ⊢
    rw [List.length_cons] at hn
    have hsi : sp.getD i 0 = (a : Int) := hin i hi (by omega)
    have e1 : (-1 :: List.replicate (nb - 1) (0 : Int)).getD (i - a) 0 = 0 := by
      rw [show i - a = (i - a - 1) + 1 by omega, List.getD_cons_succ]
      exact rep_get _ _ (by omega)
    have es : sure1 (dn a x) sure = sure1 x sure := by unfold sure1; rw [dn_f0]
    have ew : ways1 (dn a x) ways = ways1 x ways := by unfold ways1; rw [dn_f0]
    have st : stands nb (-1 :: List.replicate (nb - 1) 0) (dn a x) (i - a) sure ways = true := by
      unfold stands
      rw [dn_fields, dn_f0, es, ew, h1, e1]
      rw [hsi] at h2
      have hd : decide ((a : Int) ≥ 0) = decide ((0 : Int) ≥ 0) := by simp
      rw [← hd, h2]
      have hl : (!(decide (x.f0 = 3) || decide (x.f0 = 20)) || landsB nb (-1 :: List.replicate (nb - 1) 0) (i - a) (dn a x).f1) = true := by
        by_cases hj : x.f0 = 3 ∨ x.f0 = 20
        · have e : (dn a x).f1 = x.f1 - (a : Int) := by unfold dn; rw [if_pos hj]
          have hl := h3 hj
          unfold landsB at hl
          by_cases q1 : x.f1 ≤ (i : Int) ∨ x.f1 > (n : Int)
          · rw [if_pos q1] at hl; cases hl
          rw [if_neg q1, hsi] at hl
          by_cases q2 : x.f1 = (n : Int)
          · rw [if_pos q2] at hl
            simp only [decide_eq_true_eq] at hl
            omega
          rw [if_neg q2, beq_iff_eq] at hl
          have hlt : x.f1.toNat < a + nb := by
            rcases Nat.lt_or_ge x.f1.toNat (a + nb) with h | h
            · exact h
            · exact absurd hl (hout _ h (by omega))
          have : landsB nb (-1 :: List.replicate (nb - 1) 0) (i - a) (x.f1 - (a : Int)) = true := by
            unfold landsB
            rw [if_neg (by omega), if_neg (by omega), e1, show (x.f1 - (a : Int)).toNat = (x.f1.toNat - a - 1) + 1 by omega, List.getD_cons_succ, rep_get _ _ (by omega)]
            rfl
          rw [e, this]; simp
        · have : (decide (x.f0 = 3) || decide (x.f0 = 20)) = false := by simp; omega
          rw [this]; rfl
      rw [hl]
      simp only [Bool.and_true, Bool.true_and, Bool.and_eq_true, decide_eq_true_eq, Bool.not_eq_true', Bool.and_eq_false_iff]
      refine ⟨h4, ?_⟩
      cases hp : sure1 x sure
      · exact .inl rfl
      · cases hq : late x.f0
        · exact .inr rfl
        · exact absurd ⟨hp, hq⟩ h5
    rw [List.map_cons]
    unfold chkGo
    rw [if_pos st, es, ew, dn_f0]
    by_cases q5 : x.f0 = 5
    · rw [if_pos q5]; rfl
    · rw [if_neg q5] at hn ⊢
      rw [show i - a + 1 = (i + 1) - a by omega]
      exact chk_block hs a nb hin hout r (i + 1) _ _ (by omega) (by omega) hle h'
theorem chk_drop {n : Nat} {sp : List Int} : ∀ (m : Nat) (r : List S71) (i : Nat) (sure : Bool) (ways : Int), (chkGo n sp r i sure ways).2 = 0 → ∃ s w, (chkGo n sp (r.drop m) (i + m) s w).2 = 0
  | 0, r, i, sure, ways, h => ⟨sure, ways, h⟩
  | m + 1, [], i, sure, ways, h => ⟨sure, ways, rfl⟩
  | m + 1, x :: r, i, sure, ways, h => by
    obtain ⟨_, h'⟩ := chk_ok h
    rw [List.drop_succ_cons, show i + (m + 1) = i + 1 + m by omega]
    exact chk_drop m r (i + 1) _ _ h'
def blockOf (l : List S71) (a : Nat) : List S71 := (takeB (l.drop a)).map (dn a)
theorem check_block {l : List S71} (h : (checkL l).2 = 0) (a : Nat) (x : S71) (r : List S71) (hx : l.drop a = x :: r) (h4 : x.f0 = 4) : (checkL (blockOf l a)).2 = 0 ∧ blocksL (blockOf l a) = 1 ∧ (blockOf l a).length ≤ 48 ∧ ∃ y ∈ r, y.f0 = 5 := by
  obtain ⟨_, hlt, hr⟩ := rd_at hx
  unfold checkL at h ⊢
  by_cases h48 : l.length > 48
  · rw [if_pos h48] at h; exact absurd h (by simp)
  rw [if_neg h48] at h
  cases hg : spansGo l (-1) 0 with
  | none => rw [hg] at h; exact absurd h (by simp)
  | some sp =>
    rw [hg] at h
    have h : (chkGo l.length sp l 0 false 0).2 = 0 := h
    have hlen := spansGo_length _ _ _ _ hg
    obtain ⟨b, hb⟩ := spans_drop a l _ _ sp hg (by omega)
    rw [hx, Nat.zero_add] at hb
    obtain ⟨s', hs', hc⟩ := spans_cons hb
    have hsp1 : spansGo r (a : Int) (a + 1) = some s' := by
      rcases hc with ⟨_, _, h'⟩ | ⟨h5, _, _⟩ | ⟨h5, _, _⟩
      · exact h'
      · omega
      · exact absurd h4 h5
    obtain ⟨he, g1, g2, g3, g4, g5⟩ := block_in (a : Int) (by omega) r (a + 1) s' hsp1 (by omega)
    have hsl : s'.length = r.length := spansGo_length _ _ _ _ hsp1
    have hrl : r.length + 1 + a = l.length := by
      have : (l.drop a).length = r.length + 1 := by rw [hx]; rfl
      rw [List.length_drop] at this; omega
    have eT : takeB (l.drop a) = x :: takeB r := by rw [hx, takeB_cons, if_neg (by omega)]
    have eB : blockOf l a = dn a x :: (takeB r).map (dn a) := by unfold blockOf; rw [eT]; rfl
    have eN : (blockOf l a).length = (takeB r).length + 1 := by rw [eB]; simp
    have getsp : ∀ m, sp.getD (a + 1 + m) 0 = s'.getD m 0 := by
      intro m
      have : sp.drop a = b :: s' := hs'
      have e := congrArg (fun z : List Int => z.getD (m + 1) 0) this
      simp only [List.getD_cons_succ] at e
      rw [← e, List.getD_eq_getElem?_getD, List.getD_eq_getElem?_getD, List.getElem?_drop, show a + (m + 1) = a + 1 + m by omega]
    have hdx : dn a x = x := by unfold dn; rw [if_neg (by omega)]
    refine ⟨?_, ?_, by omega, he⟩
    · rw [if_neg (by omega)]
      have esp : spansGo (blockOf l a) (-1) 0 = some (-1 :: List.replicate (takeB r).length 0) := by
        rw [eB]
        unfold spansGo
        rw [dn_f0, if_pos h4, if_neg (by omega)]
        have := g4 1
        show (spansGo _ 0 1).map _ = _
        rw [this]; rfl
      rw [esp]
      show (chkGo (blockOf l a).length (-1 :: List.replicate (takeB r).length 0) (blockOf l a) 0 false 0).2 = 0
      obtain ⟨s, w, hch⟩ := chk_drop a l 0 false 0 h
      rw [hx, Nat.zero_add] at hch
      obtain ⟨hst, hch'⟩ := chk_ok hch
      have es : sure1 x s = false := by unfold sure1; rw [if_pos h4]
      have ew : ways1 x w = 0 := by unfold ways1; rw [if_pos h4]
      rw [es, ew] at hch'
      have st : stands (blockOf l a).length (-1 :: List.replicate (takeB r).length 0) (dn a x) 0 false 0 = true := by
        have hf := (stands_parts hst).1
        unfold stands
        rw [hdx, hf]
        have e1 : sure1 x false = false := by unfold sure1; rw [if_pos h4]
        have e2 : ways1 x 0 = 0 := by unfold ways1; rw [if_pos h4]
        rw [e1, e2, h4]
        rfl
      rw [eN] at st ⊢
      rw [eB]
      unfold chkGo
      rw [if_pos st, hdx]
      have e1 : sure1 x false = false := by unfold sure1; rw [if_pos h4]
      have e2 : ways1 x 0 = 0 := by unfold ways1; rw [if_pos h4]
      rw [e1, e2]
      have := chk_block hlen a ((takeB r).length + 1) (fun m q1 q2 => by
          rw [show m = a + 1 + (m - a - 1) by omega, getsp]; exact g2 _ (by omega)) (fun m q1 q2 => by
          rw [show m = a + 1 + (m - a - 1) by omega, getsp]; exact g3 _ (by omega) (by omega)) r (a + 1) _ _ (by omega) (by omega) (by omega) hch'
      rw [show a + 1 - a = 1 by omega] at this
      exact this
    · rw [eB]
      unfold blocksL
      rw [List.countP_cons_of_pos (by rw [dn_f0]; simpa using h4), List.countP_map]
      have : List.countP ((fun x => decide (x.f0 = 4)) ∘ dn ↑a) (takeB r) = 0 := by
        rw [List.countP_eq_zero]
        intro y hy
        simp only [Function.comp, dn_f0]
        simpa using g5 y hy
      rw [this]
def finB (k : Nat) (out : List S71) : Option Bool := (code_Check.f k out).bind fun bt184 => (if bt184.2 = 0 then ((code_Blocks.f k out).bind fun t186 => (some (t186 == 1))) else (some false))
theorem block_ev (a : Nat) (y : List S71) (hy : y.length ≤ 48) (hp : ∀ x ∈ y, (x.f0 = 3 ∨ x.f0 = 20) → 0 ≤ x.f1 ∧ x.f1 ≤ 48) (ha : a ≤ 48) (out : List S71) (fin : Ev (fun k => finB k out) true) :
    ∀ (r : List S71) (i : Nat) (done : List S71), y.drop i = r → i ≤ y.length → done.length = i → done ++ (takeB r).map (dn a) = out → (∃ x ∈ r, x.f0 = 5) →
      Ev (fun k => countermandlaw07_CodeBlocks.l0 k (a : Int) done y (y.length : Int) (i : Int)) true
  | [], i, done, h, hi, hd, he, hex => by obtain ⟨x, hx, _⟩ := hex; simp at hx
  | x :: r, i, done, h, hi, hd, he, hex => by
    obtain ⟨hx, hlt, hr⟩ := rd_at h
    have hw := wrap_next i y.length hlt (by omega)
    have hmem : x ∈ y := by
      have : x ∈ y.drop i := by rw [h]; exact List.mem_cons_self
      exact List.mem_of_mem_drop this
    have st : ∀ k, countermandlaw07_CodeBlocks.l0 (k + 1) (a : Int) done y (y.length : Int) (i : Int) = countermandlaw07_CodeBlocks.j2 k (a : Int) done y (y.length : Int) (i : Int) (decide (x.f0 = 3) || decide (x.f0 = 20)) x.f0 x.f1 x.f2 x.f3 := by
      intro k
      simp only [countermandlaw07_CodeBlocks.l0]
      rw [if_pos (by omega), if_pos (by omega), if_pos (by omega), hx]
      by_cases h3 : x.f0 = 3
      · rw [if_pos h3]; simp [h3]
      · rw [if_neg h3]; simp only [h3, decide_false, Bool.false_or]; rfl
    refine Ev.step st ?_
    have st2 : ∀ k, countermandlaw07_CodeBlocks.j2 (k + 1) (a : Int) done y (y.length : Int) (i : Int) (decide (x.f0 = 3) || decide (x.f0 = 20)) x.f0 x.f1 x.f2 x.f3 =
        (if x.f0 = 5 then finB k (done ++ [dn a x]) else (countermandlaw07_CodeBlocks.l0 k (a : Int) (done ++ [dn a x]) y (y.length : Int) ((i + 1 : Nat) : Int))) := by
      intro k
      simp only [countermandlaw07_CodeBlocks.j2]
      by_cases hj : x.f0 = 3 ∨ x.f0 = 20
      · have hb := hp x hmem hj
        have hjb : (decide (x.f0 = 3) || decide (x.f0 = 20)) = true := by simp; omega
        have e : dn a x = ⟨x.f0, x.f1 - (a : Int), x.f2, x.f3⟩ := by unfold dn; rw [if_pos hj]
        rw [if_pos hjb, if_pos (by omega), Option.bind_some, wrap_in _ (by omega) (by omega), hw, e]
        rfl
      · have hjb : ¬ (decide (x.f0 = 3) || decide (x.f0 = 20)) = true := by simp; omega
        have e : dn a x = x := by unfold dn; rw [if_neg hj]
        rw [if_neg hjb, if_pos (by omega), Option.bind_some, hw, e]
        rfl
    refine Ev.step st2 ?_
    rw [takeB_cons] at he
    by_cases h5 : x.f0 = 5
    · rw [if_pos h5] at he
      refine Ev.congr (fun k => if_pos h5) ?_
      have : done ++ [dn a x] = out := he
      rw [this]; exact fin
    · rw [if_neg h5] at he
      refine Ev.congr (fun k => if_neg h5) ?_
      refine block_ev a y hy hp ha out fin r (i + 1) (done ++ [dn a x]) hr (by omega) (by simp [hd]) (by rw [List.append_assoc]; exact he) ?_
      obtain ⟨z, hz, hz5⟩ := hex
      rcases List.mem_cons.1 hz with rfl | hz
      · exact absurd hz5 h5
      · exact ⟨z, hz, hz5⟩
theorem chk_places {n : Nat} {sp : List Int} : ∀ (r : List S71) (i : Nat) (sure : Bool) (ways : Int), (chkGo n sp r i sure ways).2 = 0 → ∀ x ∈ r, (x.f0 = 3 ∨ x.f0 = 20) → 0 ≤ x.f1 ∧ x.f1 ≤ n
  | [], _, _, _, _, x, hx => by simp at hx
  | y :: r, i, sure, ways, h, x, hx => by
    obtain ⟨hst, h'⟩ := chk_ok h
    rcases List.mem_cons.1 hx with rfl | hx
    · intro hj
      have := (stands_parts hst).2.2.1 hj
      unfold landsB at this
      by_cases h1 : x.f1 ≤ (i : Int) ∨ x.f1 > (n : Int)
      · rw [if_pos h1] at this; cases this
      · omega
    · exact chk_places r (i + 1) _ _ h' x hx

theorem CodeBlocks : countermandlaw07_CodeBlocks.Pure := by
  intro l a _ _ _
  apply Ev.rounds
  unfold countermandlaw07_CodeBlocks.f
  refine Ev.bind alive_ev ?_
  have jt : Ev (fun k => countermandlaw07_CodeBlocks.j0 k l a true) true :=
    Ev.step (f := fun _ => some true) (fun k => by simp only [countermandlaw07_CodeBlocks.j0]; rw [if_pos trivial]) (Ev.now _)
  refine Ev.congr (fun k => if_pos rfl) (Ev.bind (check_ev l) ?_)
  by_cases hc : ¬ (checkL l).2 = 0
  · exact Ev.congr (fun k => if_neg hc) jt
  rw [Decidable.not_not] at hc
  refine Ev.congr (fun k => if_pos hc) ?_
  by_cases h1 : a < 0
  · exact Ev.congr (fun k => if_pos h1) jt
  refine Ev.congr (fun k => if_neg h1) ?_
  by_cases h2 : a ≥ (l.length : Int)
  · exact Ev.congr (fun k => if_pos h2) jt
  refine Ev.congr (fun k => by rw [if_neg h2, if_pos (by omega), if_pos (by omega)]) ?_
  obtain ⟨n, rfl⟩ := Int.eq_ofNat_of_zero_le (show 0 ≤ a by omega)
  have hn : n < l.length := by omega
  obtain ⟨x, hx⟩ : ∃ x, l.drop n = x :: l.drop (n + 1) := ⟨_, List.drop_eq_getElem_cons hn⟩
  obtain ⟨hrd, _, _⟩ := rd_at hx
  rw [hrd]
  by_cases h4 : ¬ x.f0 = 4
  · exact Ev.congr (fun k => by rw [show (x.f0 != 4) = true by simpa using h4]) jt
  rw [Decidable.not_not] at h4
  obtain ⟨g1, g2, g3, g4⟩ := check_block hc n x _ hx h4
  have h48 : l.length ≤ 48 := by
    have hc' := hc
    unfold checkL at hc'
    rcases Nat.lt_or_ge 48 l.length with h | h
    · rw [if_pos h] at hc'; exact absurd hc' (by simp)
    · exact h
  refine Ev.step (f := fun k => countermandlaw07_CodeBlocks.l0 k (n : Int) [] (l.drop n) ((l.drop n).length : Int) ((0 : Nat) : Int)) (fun k => ?_) ?_
  · simp only [countermandlaw07_CodeBlocks.j0]
    rw [if_neg (by simpa using h4), if_pos (by omega), if_pos (by omega), Option.bind_some, Int.toNat_natCast]
    rfl
  have fin : Ev (fun k => finB k (blockOf l n)) true := by
    unfold finB
    refine Ev.bind (check_ev _) (Ev.congr (fun k => if_pos g1) (Ev.bind (blocks_ev _ (by omega)) ?_))
    rw [g2]
    exact Ev.congr (fun k => by rfl) (Ev.now true)
  have hpl : ∀ z ∈ l.drop n, (z.f0 = 3 ∨ z.f0 = 20) → 0 ≤ z.f1 ∧ z.f1 ≤ 48 := by
    intro z hz hj
    have hz' := List.mem_of_mem_drop hz
    have hc' := hc
    unfold checkL at hc'
    rw [if_neg (by omega)] at hc'
    cases hg : spansGo l (-1) 0 with
    | none => rw [hg] at hc'; exact absurd hc' (by simp)
    | some sp =>
      rw [hg] at hc'
      have := chk_places l 0 false 0 hc' z hz' hj
      omega
  refine block_ev n (l.drop n) (by rw [List.length_drop]; omega) hpl (by omega) (blockOf l n) fin (l.drop n) 0 [] rfl (by omega) rfl rfl ?_
  rw [hx]
  obtain ⟨y, hy, hy5⟩ := g4
  exact ⟨y, List.mem_cons_of_mem _ hy, hy5⟩

end Go.Proofs.Ytfoefgckjaafnaa.Pure
