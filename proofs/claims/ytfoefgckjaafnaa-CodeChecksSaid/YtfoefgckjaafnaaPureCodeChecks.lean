/- Proved: Check answers what the document says, of all programs; no condition beyond the statement's own bounds. -/
import Derived.Test.YtfoefgckjaafnaaPCodeChecksx11
import Derived.OpenShut
namespace Go.Proofs.Ytfoefgckjaafnaa.Pure
open Go.RowKit Go.Proofs.Ytfoefgckjaafnaa.PCodeChecks Go.Proofs.YtfoefgckjaafnaaW.PrintWords Go.Proofs.YtfoefgckjaafnaaW.PrintLast

--BEGIN code
theorem wrap_next (i n : Nat) (h : i < n) (hn : n ≤ 9223372036854775807) : wrap64 ((i : Int) + 1) = ((i + 1 : Nat) : Int) := by unfold wrap64; omega
theorem wrap_in (x : Int) (h0 : -9223372036854775808 ≤ x) (h1 : x ≤ 9223372036854775807) : wrap64 x = x := by unfold wrap64; omega
theorem Ev.eq {α : Type} {g : Nat → Option α} {r q : α} (h : Ev g r) (e : r = q) : Ev g q := e ▸ h
theorem rd_at {l : List S71} {i : Nat} {x : S71} {r : List S71} (h : l.drop i = x :: r) : rd_T71 l (i : Int) = x ∧ i < l.length ∧ l.drop (i + 1) = r := by
  have hi : i < l.length := by
    rcases Nat.lt_or_ge i l.length with h' | h'
    · exact h'
    · rw [List.drop_eq_nil_of_le h'] at h; cases h
  rw [List.drop_eq_getElem_cons hi] at h
  injection h with h1 h2
  refine ⟨?_, hi, h2⟩
  unfold rd_T71
  rw [Int.toNat_natCast, List.getD_eq_getElem?_getD, List.getElem?_eq_getElem hi]
  exact h1
theorem drop_end {l : List S71} {i : Nat} (h : l.drop i = []) (hi : i ≤ l.length) : i = l.length := by
  have := List.drop_eq_nil_iff.1 h
  omega

/-! fields, places -/
def inB (a b : Int) : Bool := decide (0 ≤ a) && decide (a < b)
theorem in_eq (a b : Int) : code_in.f a b = some (inB a b) := by
  unfold code_in.f inB
  by_cases h : a ≥ 0
  · rw [if_pos h]; simp [h]
  · rw [if_neg h]; simp [show ¬ 0 ≤ a by omega]
def isS (o : Option Bool) : Prop := ∃ r, o = some r
theorem isS_ite {c : Prop} [Decidable c] {a b : Option Bool} (h : isS a) (k : isS b) : isS (if c then a else b) := by
  split
  · exact h
  · exact k
theorem isS_some (b : Bool) : isS (some b) := ⟨b, rfl⟩
theorem things_total (a b c d : Int) : isS (code_things.f 1 a b c d) := by
  unfold code_things.f
  simp only [code_things.j0, in_eq, Option.bind_some]
  repeat' first | exact isS_some _ | apply isS_ite
theorem fields_total (a b c d : Int) : isS (code_fields.f 2 a b c d) := by
  obtain ⟨r, hr⟩ := things_total a b c d
  unfold code_fields.f
  simp only [code_fields.j0, in_eq, hr, Option.bind_some]
  repeat' first | exact isS_some _ | apply isS_ite
def fieldsB (x : S71) : Bool := (code_fields.f 2 x.f0 x.f1 x.f2 x.f3).getD false
theorem fields_ev (x : S71) : Ev (fun k => code_fields.f k x.f0 x.f1 x.f2 x.f3) (fieldsB x) := by
  obtain ⟨r, hr⟩ := fields_total x.f0 x.f1 x.f2 x.f3
  refine Ev.eq (Ev.of (fun k => code_fields.mono _ _ _ _ k) hr) ?_
  unfold fieldsB
  rw [hr]; rfl
def placedB (op : Int) (inside : Bool) : Bool := if op = 1 ∨ op = 2 ∨ op = 3 then true else if op = 0 ∨ op = 4 then !inside else inside
theorem placed_ev (op : Int) (b : Bool) : Ev (fun k => code_placed.f k op b) (placedB op b) := by
  refine Ev.of (fun k => code_placed.mono _ _ k) (k := 1) ?_
  unfold code_placed.f placedB
  simp only [code_placed.j0]
  by_cases h1 : op = 1
  · simp [h1]
  by_cases h2 : op = 2
  · simp [h2]
  by_cases h3 : op = 3
  · simp [h3]
  by_cases h0 : op = 0
  · simp [h0]
  by_cases h4 : op = 4
  · simp [h4]
  simp [h1, h2, h3, h0, h4]
def landsB (n : Nat) (sp : List Int) (i : Nat) (q : Int) : Bool :=
  if q ≤ (i : Int) ∨ q > (n : Int) then false else if q = (n : Int) then decide (sp.getD i 0 < 0) else sp.getD q.toNat 0 == sp.getD i 0
theorem lands_ev (l : List S71) (sp : List Int) (hs : sp.length = l.length) (i : Nat) (x : S71) (r : List S71) (h : l.drop i = x :: r) : Ev (fun k => code_lands.f k l sp (i : Int)) (landsB l.length sp i x.f1) := by
  obtain ⟨hx, hi, _⟩ := rd_at h
  refine Ev.of (fun k => code_lands.mono _ _ _ k) (k := 1) ?_
  unfold code_lands.f landsB
  simp only [code_lands.j0]
  rw [if_pos (by omega), if_pos (by omega), hx]
  by_cases h1 : x.f1 ≤ (i : Int)
  · rw [if_pos h1, if_pos (Or.inl h1)]; rfl
  rw [if_neg h1]
  by_cases h2 : x.f1 > (l.length : Int)
  · rw [if_pos (by simpa using h2), if_pos (Or.inr h2)]
  rw [if_neg (by simpa using h2), if_neg (show ¬ (x.f1 ≤ (i : Int) ∨ x.f1 > (l.length : Int)) by omega)]
  by_cases h3 : x.f1 = (l.length : Int)
  · rw [if_pos h3, if_pos h3, if_pos (by omega), if_pos (by omega)]
    unfold rd
    rw [Int.toNat_natCast]
  rw [if_neg h3, if_neg h3, if_pos (by omega), if_pos (by omega), if_pos (by omega), if_pos (by omega)]
  unfold rd
  rw [Int.toNat_natCast]

/-! spans -/
def spansGo : List S71 → Int → Nat → Option (List Int)
  | [], at_, _ => if at_ < 0 then some [] else none
  | x :: r, at_, i =>
    if x.f0 = 4 then (if at_ ≥ 0 then none else (spansGo r i (i + 1)).map (at_ :: ·))
    else if x.f0 = 5 then (if at_ < 0 then none else (spansGo r (-1) (i + 1)).map (at_ :: ·))
    else (spansGo r at_ (i + 1)).map (at_ :: ·)
theorem spansGo_length : ∀ (r : List S71) (at_ : Int) (i : Nat) (sp : List Int), spansGo r at_ i = some sp → sp.length = r.length
  | [], at_, i, sp, h => by
    unfold spansGo at h
    split at h
    · injection h with h; subst h; rfl
    · cases h
  | x :: r, at_, i, sp, h => by
    unfold spansGo at h
    have key : ∀ (a : Int), (spansGo r a (i + 1)).map (at_ :: ·) = some sp → sp.length = (x :: r).length := by
      intro a ha
      obtain ⟨q, hq, rfl⟩ := Option.map_eq_some_iff.1 ha
      simp [spansGo_length r _ _ q hq]
    split at h
    · split at h
      · cases h
      · exact key _ h
    · split at h
      · split at h
        · cases h
        · exact key _ h
      · exact key _ h
def spanRes (done : List Int) (o : Option (List Int)) (q : List Int × Bool) : Prop := match o with
  | some r => q = (done ++ r, true)
  | none => q.2 = false
theorem set_done (done : List Int) (m : Nat) (v : Int) : (done ++ List.replicate (m + 1) 0).set done.length v = (done ++ [v]) ++ List.replicate m 0 := by
  rw [List.set_append_right _ _ (Nat.le_refl _), Nat.sub_self, List.replicate_succ, List.set_cons_zero, List.append_assoc]; rfl
theorem spans_loop (l : List S71) (hl : l.length ≤ 48) : ∀ (r : List S71) (i : Nat) (at_ : Int) (done : List Int), l.drop i = r → i ≤ l.length → done.length = i →
    ∃ q, Ev (fun k => code_spans.l0 k (done ++ List.replicate r.length 0) at_ l (l.length : Int) (i : Int)) q ∧ spanRes done (spansGo r at_ i) q
  | [], i, at_, done, h, hi, hd => by
    have hi' := drop_end h hi
    refine ⟨(done ++ List.replicate 0 0, decide (at_ < 0)), Ev.step (f := fun _ => some (done ++ List.replicate 0 0, decide (at_ < 0))) (fun k => ?_) (Ev.now _), ?_⟩
    · simp only [code_spans.l0]
      rw [if_neg (by omega)]; rfl
    · unfold spansGo spanRes
      by_cases ha : at_ < 0
      · rw [if_pos ha]; simp [ha]
      · rw [if_neg ha]; simp [ha]
  | x :: r, i, at_, done, h, hi, hd => by
    obtain ⟨hx, hlt, hr⟩ := rd_at h
    have hlen : r.length + 1 = l.length - i := by rw [← List.length_drop, h]; rfl
    have ih := fun a => spans_loop l hl r (i + 1) a (done ++ [at_]) hr (by omega) (by rw [List.length_append, hd]; rfl)
    have hset : (done ++ List.replicate (x :: r).length 0).set (i : Int).toNat at_ = (done ++ [at_]) ++ List.replicate r.length 0 := by
      rw [Int.toNat_natCast, ← hd]; exact set_done done r.length at_
    have hw := wrap_next i l.length hlt (by omega)
    have st : ∀ k, code_spans.l0 (k + 1) (done ++ List.replicate (x :: r).length 0) at_ l (l.length : Int) (i : Int) =
        (if x.f0 = 4 then (if at_ ≥ 0 then (some (([] : List Int), false)) else (code_spans.l0 k ((done ++ [at_]) ++ List.replicate r.length 0) (i : Int) l (l.length : Int) ((i + 1 : Nat) : Int)))
        else (if x.f0 = 5 then (if at_ < 0 then (some (([] : List Int), false)) else (code_spans.l0 k ((done ++ [at_]) ++ List.replicate r.length 0) (-1) l (l.length : Int) ((i + 1 : Nat) : Int)))
        else (code_spans.l0 k ((done ++ [at_]) ++ List.replicate r.length 0) at_ l (l.length : Int) ((i + 1 : Nat) : Int)))) := by
      intro k
      simp only [code_spans.l0]
      rw [if_pos (by omega), if_pos (by omega), if_pos (by omega), if_pos (by rw [List.length_append, List.length_replicate, hd]; simp; omega), Option.bind_some, hx, hset, hw]
    have go : ∀ a q, spanRes (done ++ [at_]) (spansGo r a (i + 1)) q → spanRes done ((spansGo r a (i + 1)).map (at_ :: ·)) q := by
      intro a q hq
      cases hs : spansGo r a (i + 1) with
      | none => rw [hs] at hq; exact hq
      | some s => rw [hs] at hq; unfold spanRes at hq ⊢; rw [hq]; simp
    unfold spansGo
    by_cases h4 : x.f0 = 4
    · rw [if_pos h4]
      by_cases ha : at_ ≥ 0
      · rw [if_pos ha]
        exact ⟨([], false), Ev.step (fun k => by rw [st, if_pos h4, if_pos ha]) (Ev.now _), rfl⟩
      · rw [if_neg ha]
        obtain ⟨q, hq, hs⟩ := ih (i : Int)
        exact ⟨q, Ev.step (fun k => by rw [st, if_pos h4, if_neg ha]) hq, go _ q hs⟩
    · rw [if_neg h4]
      by_cases h5 : x.f0 = 5
      · rw [if_pos h5]
        by_cases ha : at_ < 0
        · rw [if_pos ha]
          exact ⟨([], false), Ev.step (fun k => by rw [st, if_neg h4, if_pos h5, if_pos ha]) (Ev.now _), rfl⟩
        · rw [if_neg ha]
          obtain ⟨q, hq, hs⟩ := ih (-1)
          exact ⟨q, Ev.step (fun k => by rw [st, if_neg h4, if_pos h5, if_neg ha]) hq, go _ q hs⟩
      · rw [if_neg h5]
        obtain ⟨q, hq, hs⟩ := ih at_
        exact ⟨q, Ev.step (fun k => by rw [st, if_neg h4, if_neg h5]) hq, go _ q hs⟩
theorem spans_ev (l : List S71) (hl : l.length ≤ 48) : ∃ q, Ev (fun k => code_spans.f k l) q ∧ spanRes [] (spansGo l (-1) 0) q := by
  obtain ⟨q, hq, hs⟩ := spans_loop l hl l 0 (-1) [] rfl (by omega) rfl
  refine ⟨q, Ev.congr (fun k => ?_) hq, hs⟩
  unfold code_spans.f
  rw [if_pos (by omega), if_pos (by rw [Int.toNat_natCast]; omega), Int.toNat_natCast]
  rfl

/-! the rounds of Check -/
def late (op : Int) : Bool := decide (op = 14) || decide (op = 19) || decide (op = 20) || decide (op = 21)
def sure1 (x : S71) (sure : Bool) : Bool := if x.f0 = 4 then false else sure
def ways1 (x : S71) (ways : Int) : Int := if x.f0 = 4 then 0 else if x.f0 = 20 then ways + 1 else ways
/-- whether an instruction can stand there -/
def stands (n : Nat) (sp : List Int) (x : S71) (i : Nat) (sure : Bool) (ways : Int) : Bool :=
  fieldsB x && placedB x.f0 (decide (sp.getD i 0 ≥ 0)) && (!(decide (x.f0 = 3) || decide (x.f0 = 20)) || landsB n sp i x.f1) && decide (ways1 x ways ≤ 3) && !(sure1 x sure && late x.f0)
def chkGo (n : Nat) (sp : List Int) : List S71 → Nat → Bool → Int → Int × Int
  | [], _, _, _ => (0, 0)
  | x :: r, i, sure, ways => if stands n sp x i sure ways then chkGo n sp r (i + 1) (sure1 x sure || decide (x.f0 = 21)) (ways1 x ways) else ((i : Int), 11)
theorem chk_ev (l : List S71) (hl : l.length ≤ 48) (sp : List Int) (hs : sp.length = l.length) : ∀ (r : List S71) (i : Nat) (sure : Bool) (ways : Int), l.drop i = r → i ≤ l.length → 0 ≤ ways → ways ≤ 3 →
    Ev (fun k => code_Check.l0 k l sp sure ways l (l.length : Int) (i : Int)) (chkGo l.length sp r i sure ways)
  | [], i, sure, ways, h, hi, _, _ => by
    have hi' := drop_end h hi
    refine Ev.step (f := fun _ => some (0, 0)) (fun k => ?_) (Ev.now _)
    simp only [code_Check.l0]
    rw [if_neg (by omega)]
  | x :: r, i, sure, ways, h, hi, hw0, hw3 => by
    obtain ⟨hx, hlt, hr⟩ := rd_at h
    have hw := wrap_next i l.length hlt (by omega)
    have fail : ∀ (rest : Int × Int), stands l.length sp x i sure ways = false → chkGo l.length sp (x :: r) i sure ways = ((i : Int), 11) := fun _ e => by
      unfold chkGo; rw [if_neg (by simp [e])]
    have e0 : ∀ k, code_Check.l0 (k + 1) l sp sure ways l (l.length : Int) (i : Int) = (code_fields.f k x.f0 x.f1 x.f2 x.f3).bind fun t148 => (if t148 = true then (if (i : Int) < (sp.length : Int) then ((code_placed.f k x.f0 (decide ((rd sp (i : Int)) ≥ 0))).bind fun t150 => (code_Check.j1 k l sp sure ways (i : Int) l (l.length : Int) (i : Int) (!t150) x.f0 x.f1 x.f2 x.f3)) else (none)) else (code_Check.j1 k l sp sure ways (i : Int) l (l.length : Int) (i : Int) true x.f0 x.f1 x.f2 x.f3)) := by
      intro k
      simp only [code_Check.l0]
      rw [if_pos (by omega), if_pos (by omega), if_pos (by omega), hx]
    refine Ev.step e0 (Ev.bind (fields_ev x) ?_)
    have j1no : Ev (fun k => code_Check.j1 k l sp sure ways (i : Int) l (l.length : Int) (i : Int) true x.f0 x.f1 x.f2 x.f3) ((i : Int), 11) :=
      Ev.step (f := fun _ => some ((i : Int), 11)) (fun k => by simp only [code_Check.j1]; rw [if_pos trivial]) (Ev.now _)
    by_cases hf : ¬ fieldsB x = true
    · rw [fail (0, 0) (by unfold stands; simp [hf])]
      exact Ev.congr (fun k => if_neg hf) j1no
    rw [Decidable.not_not] at hf
    refine Ev.congr (fun k => by rw [if_pos hf, if_pos (by omega)]) (Ev.bind (placed_ev _ _) ?_)
    have erd : rd sp (i : Int) = sp.getD i 0 := by unfold rd; rw [Int.toNat_natCast]
    rw [erd]
    by_cases hp : ¬ placedB x.f0 (decide (sp.getD i 0 ≥ 0)) = true
    · rw [fail (0, 0) (by unfold stands; simp only [hf, Bool.true_and, Bool.and_eq_false_iff]; left; left; left; simpa using hp)]
      rw [Bool.not_eq_true] at hp
      rw [hp]
      exact j1no
    rw [Decidable.not_not] at hp
    rw [hp]
    -- the last looks
    have j4 : ∀ s w, s = sure1 x sure → w = ways1 x ways → (!(decide (x.f0 = 3) || decide (x.f0 = 20)) || landsB l.length sp i x.f1) = true →
        Ev (fun k => code_Check.j4 k l sp s w (i : Int) l (l.length : Int) (i : Int) x.f0 x.f1 x.f2 x.f3) (chkGo l.length sp (x :: r) i sure ways) := by
      intro s w es ew hland
      have ihh := fun (hb : ways1 x ways ≤ 3) => chk_ev l hl sp hs r (i + 1) (sure1 x sure || decide (x.f0 = 21)) (ways1 x ways) hr (by omega) (by unfold ways1; split <;> (try split) <;> omega) hb
      by_cases hb : w > 3
      · rw [fail (0, 0) (by unfold stands; rw [← ew]; simp [show ¬ w ≤ 3 by omega])]
        exact Ev.step (f := fun _ => some ((i : Int), 11)) (fun k => by simp only [code_Check.j4]; rw [if_pos hb]) (Ev.now _)
      have hb' : ways1 x ways ≤ 3 := by omega
      by_cases hl' : (s && late x.f0) = true
      · rw [fail (0, 0) (by unfold stands; rw [← es, hl']; simp)]
        rw [Bool.and_eq_true] at hl'
        refine Ev.step (f := fun _ => some ((i : Int), 11)) (fun k => ?_) (Ev.now _)
        simp only [code_Check.j4]
        rw [if_neg hb, if_pos hl'.1]
        have := hl'.2
        unfold late at this
        simp only [Bool.or_eq_true, decide_eq_true_eq] at this
        rcases this with ((h | h) | h) | h
        · rw [if_pos h]
        · rw [if_neg (by omega), if_pos h]
        · rw [if_neg (by omega), if_neg (by omega), if_pos h]
        · rw [if_neg (by omega), if_neg (by omega), if_neg (by omega), if_pos h]
      · have hst : stands l.length sp x i sure ways = true := by
          unfold stands
          rw [hf, hp, hland, ← es]
          simp only [Bool.and_true, Bool.true_and, decide_eq_true_eq, Bool.and_eq_true]
          refine ⟨hb', ?_⟩
          rw [Bool.not_eq_true] at hl'
          rw [hl']; rfl
        have e1 : chkGo l.length sp (x :: r) i sure ways = chkGo l.length sp r (i + 1) (sure1 x sure || decide (x.f0 = 21)) (ways1 x ways) := by
          conv => lhs; unfold chkGo
          rw [if_pos hst]
        rw [e1]
        refine Ev.step (f := fun k => code_Check.l0 k l sp (sure1 x sure || decide (x.f0 = 21)) (ways1 x ways) l (l.length : Int) ((i + 1 : Nat) : Int)) (fun k => ?_) (ihh hb')
        simp only [code_Check.j4]
        rw [if_neg hb, hw, ← es, ← ew]
        by_cases hsr : s = true
        · rw [if_pos hsr]
          have hn : late x.f0 = false := by
            rw [hsr] at hl'; simpa using hl'
          unfold late at hn
          simp only [Bool.or_eq_false_iff, decide_eq_false_iff_not] at hn
          rw [if_neg hn.1.1.1, if_neg hn.1.1.2, if_neg hn.1.2, if_neg hn.2, hsr]
          simp
        · rw [if_neg hsr]
          have : s = false := by simpa using hsr
          rw [this, Bool.false_or]
          rfl
    have j3 : ∀ s w, s = sure1 x sure → w = (if x.f0 = 4 then 0 else ways) → (!(decide (x.f0 = 3) || decide (x.f0 = 20)) || landsB l.length sp i x.f1) = true →
        Ev (fun k => code_Check.j3 k l sp s w (i : Int) l (l.length : Int) (i : Int) x.f0 x.f1 x.f2 x.f3) (chkGo l.length sp (x :: r) i sure ways) := by
      intro s w es ew hland
      by_cases h20 : x.f0 = 20
      · refine Ev.step (fun k => by simp only [code_Check.j3]; rw [if_pos h20]) (j4 _ _ es ?_ hland)
        rw [ew, if_neg (by omega), wrap_in _ (by omega) (by omega)]
        unfold ways1; rw [if_neg (by omega), if_pos h20]
      · refine Ev.step (fun k => by simp only [code_Check.j3]; rw [if_neg h20]) (j4 _ _ es ?_ hland)
        rw [ew]; unfold ways1
        by_cases h4 : x.f0 = 4
        · rw [if_pos h4, if_pos h4]
        · rw [if_neg h4, if_neg h4, if_neg h20]
    refine Ev.step (f := fun k => code_Check.j2 k l sp sure ways (i : Int) l (l.length : Int) (i : Int) x.f0 (decide (x.f0 = 3) || decide (x.f0 = 20)) x.f0 x.f1 x.f2 x.f3) (fun k => ?_) ?_
    · simp only [code_Check.j1]
      rw [if_neg (by simp)]
      by_cases h3 : x.f0 = 3
      · rw [if_pos h3]; simp [h3]
      · rw [if_neg h3]; simp [h3]; rfl
    by_cases hjl : (decide (x.f0 = 3) || decide (x.f0 = 20)) = true
    · refine Ev.step (fun k => by simp only [code_Check.j2]; rw [if_pos hjl]) (Ev.bind (lands_ev l sp hs i x r h) ?_)
      have hn4 : ¬ x.f0 = 4 := by
        simp only [Bool.or_eq_true, decide_eq_true_eq] at hjl; omega
      by_cases hla : landsB l.length sp i x.f1 = true
      · exact Ev.congr (fun k => if_pos hla) (j3 _ _ (by unfold sure1; rw [if_neg hn4]) (by rw [if_neg hn4]) (by rw [hla]; simp))
      · rw [fail (0, 0) (by unfold stands; rw [hjl]; simp [hla])]
        exact Ev.congr (fun k => if_neg hla) (Ev.now _)
    · have hland : (!(decide (x.f0 = 3) || decide (x.f0 = 20)) || landsB l.length sp i x.f1) = true := by
        rw [Bool.not_eq_true] at hjl; rw [hjl]; rfl
      by_cases h4 : x.f0 = 4
      · exact Ev.step (fun k => by simp only [code_Check.j2]; rw [if_neg hjl, if_pos h4]) (j3 _ _ (by unfold sure1; rw [if_pos h4]) (by rw [if_pos h4]) hland)
      · exact Ev.step (fun k => by simp only [code_Check.j2]; rw [if_neg hjl, if_neg h4]) (j3 _ _ (by unfold sure1; rw [if_neg h4]) (by rw [if_neg h4]) hland)
theorem chk_ok {n : Nat} {sp : List Int} {x : S71} {r : List S71} {i : Nat} {sure : Bool} {ways : Int} (h : (chkGo n sp (x :: r) i sure ways).2 = 0) :
    stands n sp x i sure ways = true ∧ (chkGo n sp r (i + 1) (sure1 x sure || decide (x.f0 = 21)) (ways1 x ways)).2 = 0 := by
  unfold chkGo at h
  by_cases hs : stands n sp x i sure ways = true
  · rw [if_pos hs] at h; exact ⟨hs, h⟩
  · rw [if_neg hs] at h; exact absurd h (by simp)
theorem stands_parts {n : Nat} {sp : List Int} {x : S71} {i : Nat} {sure : Bool} {ways : Int} (h : stands n sp x i sure ways = true) :
    fieldsB x = true ∧ placedB x.f0 (decide (sp.getD i 0 ≥ 0)) = true ∧ ((x.f0 = 3 ∨ x.f0 = 20) → landsB n sp i x.f1 = true) ∧ ways1 x ways ≤ 3 ∧ ¬ (sure1 x sure = true ∧ late x.f0 = true) := by
  unfold stands at h
  simp only [Bool.and_eq_true, Bool.or_eq_true, Bool.not_eq_true', decide_eq_true_eq, Bool.or_eq_false_iff, decide_eq_false_iff_not, Bool.and_eq_false_iff] at h
  obtain ⟨⟨⟨⟨h1, h2⟩, h3⟩, h4⟩, h5⟩ := h
  refine ⟨h1, h2, fun hj => ?_, h4, fun ⟨a, b⟩ => ?_⟩
  · rcases h3 with h3 | h3
    · omega
    · exact h3
  · rcases h5 with h5 | h5
    · rw [h5] at a; cases a
    · rw [h5] at b; cases b
def checkL (l : List S71) : Int × Int :=
  if l.length > 48 then (0, 3) else match spansGo l (-1) 0 with
    | none => (0, 11)
    | some sp => chkGo l.length sp l 0 false 0
theorem check_ev (l : List S71) : Ev (fun k => code_Check.f k l) (checkL l) := by
  unfold code_Check.f checkL
  by_cases h : l.length > 48
  · rw [if_pos h]; exact Ev.congr (fun k => if_pos (by omega)) (Ev.now _)
  rw [if_neg h]
  refine Ev.congr (fun k => if_neg (by omega)) ?_
  obtain ⟨q, hq, hs⟩ := spans_ev l (by omega)
  refine Ev.bind hq ?_
  cases hg : spansGo l (-1) 0 with
  | none =>
    rw [hg] at hs
    unfold spanRes at hs
    exact Ev.congr (fun k => if_neg (by rw [hs]; simp)) (Ev.now _)
  | some sp =>
    rw [hg] at hs
    unfold spanRes at hs
    subst hs
    refine Ev.congr (fun k => if_pos rfl) ?_
    have := chk_ev l (by omega) sp (spansGo_length _ _ _ _ hg) l 0 false 0 rfl (by omega) (by omega) (by omega)
    exact this
def blocksL (l : List S71) : Nat := l.countP (fun x => decide (x.f0 = 4))
theorem blocks_loop (l : List S71) (hl : l.length ≤ 4611686018427387904) : ∀ (r : List S71) (i n : Nat), l.drop i = r → i ≤ l.length → n ≤ i → Ev (fun k => code_Blocks.l0 k (n : Int) l (l.length : Int) (i : Int)) ((n + blocksL r : Nat) : Int)
  | [], i, n, h, hi, hn => by
    have hi' := drop_end h hi
    refine Ev.step (f := fun _ => some (n : Int)) (fun k => ?_) (Ev.eq (Ev.now _) (by simp [blocksL]))
    simp only [code_Blocks.l0]
    rw [if_neg (by omega)]
  | x :: r, i, n, h, hi, hn => by
    obtain ⟨hx, hlt, hr⟩ := rd_at h
    have hw := wrap_next i l.length hlt (by omega)
    have hw2 := wrap_next n l.length (by omega) (by omega)
    by_cases h4 : x.f0 = 4
    · refine Ev.step (f := fun k => code_Blocks.l0 k ((n + 1 : Nat) : Int) l (l.length : Int) ((i + 1 : Nat) : Int)) (fun k => ?_) (Ev.eq (blocks_loop l hl r (i + 1) (n + 1) hr (by omega) (by omega)) ?_)
      · simp only [code_Blocks.l0]
        rw [if_pos (by omega), if_pos (by omega), if_pos (by omega), hx, if_pos h4, hw, hw2]
      · unfold blocksL; rw [List.countP_cons_of_pos (by simpa using h4)]; omega
    · refine Ev.step (f := fun k => code_Blocks.l0 k (n : Int) l (l.length : Int) ((i + 1 : Nat) : Int)) (fun k => ?_) (Ev.eq (blocks_loop l hl r (i + 1) n hr (by omega) (by omega)) ?_)
      · simp only [code_Blocks.l0]
        rw [if_pos (by omega), if_pos (by omega), if_pos (by omega), hx, if_neg h4, hw]
      · unfold blocksL; rw [List.countP_cons_of_neg (by simpa using h4)]
theorem blocks_ev (l : List S71) (hl : l.length ≤ 4611686018427387904) : Ev (fun k => code_Blocks.f k l) ((blocksL l : Nat) : Int) := by
  have := blocks_loop l hl l 0 0 rfl (by omega) (by omega)
  refine Ev.congr (fun k => rfl) (Ev.eq this (by omega))
theorem alive_ev : Ev (fun k => countermandlaw07_alive.f k) true := by
  unfold countermandlaw07_alive.f
  refine Ev.bind (check_ev _) (Ev.bind (check_ev _) ?_)
  have e1 : (checkL [⟨4, 0, 0, 0⟩, ⟨5, 0, 0, 0⟩]).2 = 0 := by decide +kernel
  have e2 : (checkL [⟨4, 0, 0, 0⟩]).2 = 11 := by decide +kernel
  refine Ev.congr (fun k => by rw [if_pos e1, if_pos e2]) (Ev.bind (blocks_ev _ (by decide)) ?_)
  exact Ev.congr (fun k => by rfl) (Ev.now _)
--END code

/-! the document's Block, forward -/
def opAt (l : List S71) (i : Nat) : Int := (l.getD i ⟨0, 0, 0, 0⟩).f0
/-- the Begin of the block that is open ahead of a place; -1: none -/
def scanB (l : List S71) : Nat → Int
  | 0 => -1
  | k + 1 => if opAt l k = 5 then -1 else if opAt l k = 4 then (k : Int) else scanB l k
theorem scanB_range (l : List S71) : ∀ k, scanB l k = -1 ∨ (0 ≤ scanB l k ∧ scanB l k < (k : Int))
  | 0 => .inl rfl
  | k + 1 => by
    unfold scanB
    by_cases h5 : opAt l k = 5
    · rw [if_pos h5]; exact .inl rfl
    · rw [if_neg h5]
      by_cases h4 : opAt l k = 4
      · rw [if_pos h4]; exact .inr ⟨by omega, by omega⟩
      · rw [if_neg h4]
        rcases scanB_range l k with h | h
        · exact .inl h
        · exact .inr ⟨h.1, by omega⟩
theorem opAt_drop {l : List S71} {i : Nat} {x : S71} {r : List S71} (h : l.drop i = x :: r) : opAt l i = x.f0 := by
  have hi : i < l.length := by
    rcases Nat.lt_or_ge i l.length with h' | h'
    · exact h'
    · rw [List.drop_eq_nil_of_le h'] at h; cases h
  rw [List.drop_eq_getElem_cons hi] at h
  injection h with h1 _
  unfold opAt
  rw [List.getD_eq_getElem?_getD, List.getElem?_eq_getElem hi]
  exact congrArg S71.f0 h1
theorem drop_next {l : List S71} {i : Nat} {x : S71} {r : List S71} (h : l.drop i = x :: r) : l.drop (i + 1) = r := (rd_at h).2.2
/-- where blocks are closed, none in another one, the forward walk tells each place's block -/
theorem spans_scan (l : List S71) : ∀ (r : List S71) (i : Nat) (sp : List Int), l.drop i = r → i ≤ l.length → spansGo r (scanB l i) i = some sp →
    (∀ j, j < r.length → sp.getD j 0 = scanB l (i + j) ∧ (opAt l (i + j) = 4 → scanB l (i + j) = -1)) ∧ scanB l l.length = -1
  | [], i, sp, h, hi, hs => by
    have := drop_end h hi
    subst this
    unfold spansGo at hs
    refine ⟨fun j hj => by simp at hj, ?_⟩
    rcases scanB_range l l.length with h' | h'
    · exact h'
    · rw [if_neg (by omega)] at hs; cases hs
  | x :: r, i, sp, h, hi, hs => by
    have ho := opAt_drop h
    have hr := drop_next h
    have hlt := (rd_at h).2.1
    have key : ∀ at2, scanB l (i + 1) = at2 → (opAt l i = 4 → scanB l i = -1) → (spansGo r at2 (i + 1)).map (scanB l i :: ·) = some sp → (∀ j, j < (x :: r).length → sp.getD j 0 = scanB l (i + j) ∧ (opAt l (i + j) = 4 → scanB l (i + j) = -1)) ∧ scanB l l.length = -1 := by
      intro at2 ha h4 hm
      obtain ⟨sp', hsp, rfl⟩ := Option.map_eq_some_iff.1 hm
      rw [← ha] at hsp
      obtain ⟨h1, h2⟩ := spans_scan l r (i + 1) sp' hr (by omega) hsp
      refine ⟨fun j hj => ?_, h2⟩
      cases j with
      | zero => exact ⟨rfl, h4⟩
      | succ j =>
        have := h1 j (by simp at hj; omega)
        rw [show i + 1 + j = i + (j + 1) by omega] at this
        exact this
    unfold spansGo at hs
    have hsc : scanB l (i + 1) = if x.f0 = 5 then -1 else if x.f0 = 4 then (i : Int) else scanB l i := by
      rw [scanB, ho]
    by_cases h4 : x.f0 = 4
    · rw [if_pos h4] at hs
      by_cases ha : scanB l i ≥ 0
      · rw [if_pos ha] at hs; cases hs
      · rw [if_neg ha] at hs
        refine key _ (by rw [hsc, if_neg (by omega), if_pos h4]) (fun _ => ?_) hs
        rcases scanB_range l i with h' | h'
        · exact h'
        · omega
    · rw [if_neg h4] at hs
      by_cases h5 : x.f0 = 5
      · rw [if_pos h5] at hs
        by_cases ha : scanB l i < 0
        · rw [if_pos ha] at hs; cases hs
        · rw [if_neg ha] at hs
          exact key _ (by rw [hsc, if_pos h5]) (fun e => by omega) hs
      · rw [if_neg h5] at hs
        exact key _ (by rw [hsc, if_neg h5, if_neg h4]) (fun e => by omega) hs
/-- Shaped -/
theorem shaped_loop (l : List S71) (hl : l.length ≤ 100) : ∀ (r : List S71) (i : Nat) (o : Int), l.drop i = r → i ≤ l.length → ((o = 0 ∧ scanB l i < 0) ∨ (o = 1 ∧ 0 ≤ scanB l i)) →
    Ev (fun k => countermandref07_Shaped.l0 k o l (l.length : Int) (i : Int)) (spansGo r (scanB l i) i).isSome
  | [], i, o, h, hi, ho => by
    have := drop_end h hi
    refine Ev.step (f := fun _ => some (spansGo [] (scanB l i) i).isSome) (fun k => ?_) (Ev.now _)
    rw [countermandref07_Shaped.l0, if_neg (by omega)]
    unfold spansGo
    rcases ho with ⟨rfl, h2⟩ | ⟨rfl, h2⟩
    · rw [if_pos h2]; rfl
    · rw [if_neg (by omega)]; rfl
  | x :: r, i, o, h, hi, ho => by
    obtain ⟨hx, hlt, hr⟩ := rd_at h
    have hop := opAt_drop h
    have hw := wrap_next i l.length hlt (by omega)
    have hsc : scanB l (i + 1) = if x.f0 = 5 then -1 else if x.f0 = 4 then (i : Int) else scanB l i := by rw [scanB, hop]
    by_cases h4 : x.f0 = 4
    · have h5 : ¬ x.f0 = 5 := by omega
      refine Ev.step (f := fun k => countermandref07_Shaped.j1 k (wrap64 (o + 1)) l (l.length : Int) (i : Int) x.f0 x.f1 x.f2 x.f3) (fun k => ?_) ?_
      · rw [countermandref07_Shaped.l0, if_pos (by omega), if_pos (by omega), if_pos (by omega), hx, if_pos h4]
      rcases ho with ⟨rfl, h2⟩ | ⟨rfl, h2⟩
      · refine Ev.step (f := fun k => countermandref07_Shaped.l0 k 1 l (l.length : Int) ((i + 1 : Nat) : Int)) (fun k => ?_) ?_
        · rw [countermandref07_Shaped.j1, if_neg h5, show wrap64 (0 + 1) = 1 by unfold wrap64; omega, if_neg (by decide), if_neg (by decide), hw]
        · have ih := shaped_loop l hl r (i + 1) 1 hr (by omega) (.inr ⟨rfl, by rw [hsc, if_neg h5, if_pos h4]; omega⟩)
          refine Ev.eq ih ?_
          conv => rhs; unfold spansGo
          rw [if_pos h4, if_neg (show ¬ scanB l i ≥ 0 by omega), hsc, if_neg h5, if_pos h4]
          cases spansGo r (i : Int) (i + 1) <;> rfl
      · refine Ev.step (f := fun _ => some false) (fun k => ?_) (Ev.eq (Ev.now _) ?_)
        · rw [countermandref07_Shaped.j1, if_neg h5, show wrap64 (1 + 1) = 2 by unfold wrap64; omega, if_neg (by decide), if_pos (by decide)]
        · unfold spansGo
          rw [if_pos h4, if_pos (show scanB l i ≥ 0 by omega)]; rfl
    · refine Ev.step (f := fun k => countermandref07_Shaped.j1 k o l (l.length : Int) (i : Int) x.f0 x.f1 x.f2 x.f3) (fun k => ?_) ?_
      · rw [countermandref07_Shaped.l0, if_pos (by omega), if_pos (by omega), if_pos (by omega), hx, if_neg h4]
      by_cases h5 : x.f0 = 5
      · rcases ho with ⟨rfl, h2⟩ | ⟨rfl, h2⟩
        · refine Ev.step (f := fun _ => some false) (fun k => ?_) (Ev.eq (Ev.now _) ?_)
          · rw [countermandref07_Shaped.j1, if_pos h5, show wrap64 (0 - 1) = -1 by unfold wrap64; omega, if_pos (by decide)]
          · unfold spansGo
            rw [if_neg h4, if_pos h5, if_pos h2]; rfl
        · refine Ev.step (f := fun k => countermandref07_Shaped.l0 k 0 l (l.length : Int) ((i + 1 : Nat) : Int)) (fun k => ?_) ?_
          · rw [countermandref07_Shaped.j1, if_pos h5, show wrap64 (1 - 1) = 0 by unfold wrap64; omega, if_neg (by decide), if_neg (by decide), hw]
          · have ih := shaped_loop l hl r (i + 1) 0 hr (by omega) (.inl ⟨rfl, by rw [hsc, if_pos h5]; decide⟩)
            refine Ev.eq ih ?_
            conv => rhs; unfold spansGo
            rw [if_neg h4, if_pos h5, if_neg (show ¬ scanB l i < 0 by omega), hsc, if_pos h5]
            cases spansGo r (-1) (i + 1) <;> rfl
      · refine Ev.step (f := fun k => countermandref07_Shaped.l0 k o l (l.length : Int) ((i + 1 : Nat) : Int)) (fun k => ?_) ?_
        · rw [countermandref07_Shaped.j1, if_neg h5, if_neg (by omega), if_neg (by omega), hw]
        · have e : scanB l (i + 1) = scanB l i := by rw [hsc, if_neg h5, if_neg h4]
          have ih := shaped_loop l hl r (i + 1) o hr (by omega) (by rw [e]; exact ho)
          refine Ev.eq ih ?_
          conv => rhs; unfold spansGo
          rw [if_neg h4, if_neg h5, e]
          cases spansGo r (scanB l i) (i + 1) <;> rfl
theorem shaped_ev (l : List S71) (hl : l.length ≤ 100) : Ev (fun k => countermandref07_Shaped.f k l) (spansGo l (-1) 0).isSome := by
  unfold countermandref07_Shaped.f
  exact shaped_loop l hl l 0 0 rfl (by omega) (.inl ⟨rfl, by show (-1 : Int) < 0; decide⟩)
theorem rd_op {l : List S71} {i : Nat} (h : i < l.length) : (rd_T71 l (i : Int)).f0 = opAt l i := by
  unfold rd_T71 opAt
  rw [Int.toNat_natCast, List.getD_eq_getElem?_getD, List.getD_eq_getElem?_getD, List.getElem?_eq_getElem h]
  rfl
theorem block_l0 (l : List S71) (hl : l.length ≤ 100) : ∀ (j : Nat), j ≤ l.length → Ev (fun k => countermandref07_Block.l0 k l (wrap64 ((j : Int) - 1))) (scanB l j)
  | 0, _ => by
    refine Ev.step (f := fun _ => some (-1)) (fun k => ?_) (Ev.now _)
    rw [show wrap64 (((0 : Nat) : Int) - 1) = -1 by unfold wrap64; omega, countermandref07_Block.l0, if_neg (by decide)]
  | j + 1, h => by
    have e : wrap64 (((j + 1 : Nat) : Int) - 1) = (j : Int) := by rw [wrap_in _ (by omega) (by omega)]; omega
    have hj : j < l.length := by omega
    have hs : ∀ k, countermandref07_Block.l0 (k + 1) l (wrap64 (((j + 1 : Nat) : Int) - 1)) = if opAt l j = 5 then some (-1) else if opAt l j = 4 then some (j : Int) else countermandref07_Block.l0 k l (wrap64 ((j : Int) - 1)) := by
      intro k
      rw [e, countermandref07_Block.l0, if_pos (by omega), if_pos (by omega), if_pos (by omega), rd_op hj]
    refine Ev.step hs ?_
    unfold scanB
    by_cases h5 : opAt l j = 5
    · rw [if_pos h5]; exact Ev.congr (fun k => if_pos h5) (Ev.now _)
    · rw [if_neg h5]
      refine Ev.congr (fun k => if_neg h5) ?_
      by_cases h4 : opAt l j = 4
      · rw [if_pos h4]; exact Ev.congr (fun k => if_pos h4) (Ev.now _)
      · rw [if_neg h4]; exact Ev.congr (fun k => if_neg h4) (block_l0 l hl j (by omega))
theorem block_ev (l : List S71) (hl : l.length ≤ 100) (i : Nat) (hi : i < l.length) : Ev (fun k => countermandref07_Block.f k l (i : Int)) (if opAt l i = 4 then -1 else scanB l i) := by
  unfold countermandref07_Block.f
  refine Ev.congr (fun k => by rw [if_pos (by omega), if_pos (by omega), rd_op hi]) ?_
  by_cases h4 : opAt l i = 4
  · rw [if_pos h4]; exact Ev.congr (fun k => if_pos h4) (Ev.now _)
  · rw [if_neg h4]; exact Ev.congr (fun k => if_neg h4) (block_l0 l hl i (by omega))
/-- the fields' limits are the program's own -/
def inLim (x : S71) (q : Int × Int × Int × Int × Int × Int × Bool) : Prop := q.2.2.2.2.2.2 = true ∧ q.1 ≤ x.f1 ∧ x.f1 ≤ q.2.1 ∧ q.2.2.1 ≤ x.f2 ∧ x.f2 ≤ q.2.2.2.1 ∧ q.2.2.2.2.1 ≤ x.f3 ∧ x.f3 ≤ q.2.2.2.2.2.1 ∧ ¬ (x.f0 = 12 ∧ x.f1 = x.f2)
def Wf (x : S71) : Prop := (-9223372036854775808 ≤ x.f1 ∧ x.f1 ≤ 9223372036854775807) ∧ (-9223372036854775808 ≤ x.f2 ∧ x.f2 ≤ 9223372036854775807) ∧ (-9223372036854775808 ≤ x.f3 ∧ x.f3 ≤ 9223372036854775807)
theorem limits_fields (x : S71) (hw : Wf x) : ∃ q, countermandref07_limits.f 3 x.f0 = some q ∧ (fieldsB x = true ↔ inLim x q) := by
  obtain ⟨⟨a1, a2⟩, ⟨b1, b2⟩, c1, c2⟩ := hw
  unfold fieldsB inLim
  obtain ⟨op, A, B, C⟩ := x
  dsimp only at *
  by_cases hop : 0 ≤ op ∧ op ≤ 21
  · obtain ⟨h0, h1⟩ := hop
    have : op = 0 ∨ op = 1 ∨ op = 2 ∨ op = 3 ∨ op = 4 ∨ op = 5 ∨ op = 6 ∨ op = 7 ∨ op = 8 ∨ op = 9 ∨ op = 10 ∨ op = 11 ∨ op = 12 ∨ op = 13 ∨ op = 14 ∨ op = 15 ∨ op = 16 ∨ op = 17 ∨ op = 18 ∨ op = 19 ∨ op = 20 ∨ op = 21 := by omega
    rcases this with rfl | rfl | rfl | rfl | rfl | rfl | rfl | rfl | rfl | rfl | rfl | rfl | rfl | rfl | rfl | rfl | rfl | rfl | rfl | rfl | rfl | rfl <;>
      refine ⟨_, by simp [countermandref07_limits.f, countermandref07_limits.j0, countermandref07_limits.j1]; rfl, ?_⟩ <;>
      simp [code_fields.f, code_fields.j0, code_things.f, code_things.j0, in_eq, inB] <;>
      (first | omega | ((repeat' split) <;> (try simp) <;> omega))
  · have hn : op ≠ 0 ∧ op ≠ 1 ∧ op ≠ 2 ∧ op ≠ 3 ∧ op ≠ 4 ∧ op ≠ 5 ∧ op ≠ 6 ∧ op ≠ 7 ∧ op ≠ 8 ∧ op ≠ 9 ∧ op ≠ 10 ∧ op ≠ 11 ∧ op ≠ 12 ∧ op ≠ 13 ∧ op ≠ 14 ∧ op ≠ 15 ∧ op ≠ 16 ∧ op ≠ 17 ∧ op ≠ 18 ∧ op ≠ 19 ∧ op ≠ 20 ∧ op ≠ 21 := by omega
    obtain ⟨n0, n1, n2, n3, n4, n5, n6, n7, n8, n9, n10, n11, n12, n13, n14, n15, n16, n17, n18, n19, n20, n21⟩ := hn
    refine ⟨_, by simp [countermandref07_limits.f, countermandref07_limits.j0, countermandref07_limits.j1, n0, n1, n2, n3, n4, n5, n6, n7, n8, n9, n10, n11, n12, n13, n14, n15, n16, n17, n18, n19, n20, n21]; rfl, ?_⟩
    simp [code_fields.f, code_fields.j0, code_things.f, code_things.j0, n0, n1, n2, n3, n4, n5, n6, n7, n8, n9, n10, n11, n12, n13, n14, n15, n16, n17, n18, n19, n20, n21]
/-! One -/
def loopB (l : List S71) (op : Int) : Nat → Nat → Int → Bool
  | 0, _, w => if op = 20 then decide (w < 3) else true
  | d + 1, k, w => if opAt l k = 21 ∧ late op = true then false else loopB l op d (k + 1) (if opAt l k = 20 then w + 1 else w)
theorem late_iff (op : Int) : late op = true ↔ op = 14 ∨ op = 19 ∨ op = 20 ∨ op = 21 := by
  unfold late; simp [or_assoc]
theorem loop_ev (l : List S71) (hl : l.length ≤ 100) (x : S71) (i : Nat) (hi : i ≤ l.length) : ∀ (d k : Nat) (w : Int), k + d = i → 0 ≤ w → w ≤ (k : Int) →
    Ev (fun f => countermandref07_One.l0 f l (i : Int) w (k : Int) x.f0 x.f1 x.f2 x.f3) (loopB l x.f0 d k w)
  | 0, k, w, h, h0, h1 => by
    unfold loopB
    by_cases ho : x.f0 = 20
    · refine Ev.step (f := fun _ => some (decide (w < 3))) (fun f => ?_) (Ev.eq (Ev.now _) (by rw [if_pos ho]))
      rw [countermandref07_One.l0, if_neg (by omega), if_pos ho]
    · refine Ev.step (f := fun _ => some true) (fun f => ?_) (Ev.eq (Ev.now _) (by rw [if_neg ho]))
      rw [countermandref07_One.l0, if_neg (by omega), if_neg ho]
  | d + 1, k, w, h, h0, h1 => by
    have hk : k < l.length := by omega
    have go : Ev (fun f => countermandref07_One.j5 f l (i : Int) w (k : Int) false x.f0 x.f1 x.f2 x.f3) (loopB l x.f0 d (k + 1) (if opAt l k = 20 then w + 1 else w)) := by
      have hw : wrap64 ((k : Int) + 1) = ((k + 1 : Nat) : Int) := wrap_next k l.length hk (by omega)
      by_cases h20 : opAt l k = 20
      · rw [if_pos h20]
        refine Ev.step (f := fun f => countermandref07_One.l0 f l (i : Int) (w + 1) ((k + 1 : Nat) : Int) x.f0 x.f1 x.f2 x.f3) (fun f => ?_) (loop_ev l hl x i hi d (k + 1) (w + 1) (by omega) (by omega) (by omega))
        rw [countermandref07_One.j5, if_neg (by decide), if_pos (by omega), if_pos (by omega), rd_op hk, if_pos h20, hw, wrap_in (w + 1) (by omega) (by omega)]
      · rw [if_neg h20]
        refine Ev.step (f := fun f => countermandref07_One.l0 f l (i : Int) w ((k + 1 : Nat) : Int) x.f0 x.f1 x.f2 x.f3) (fun f => ?_) (loop_ev l hl x i hi d (k + 1) w (by omega) h0 (by omega))
        rw [countermandref07_One.j5, if_neg (by decide), if_pos (by omega), if_pos (by omega), rd_op hk, if_neg h20, hw]
    have stop : Ev (fun f => countermandref07_One.j5 f l (i : Int) w (k : Int) true x.f0 x.f1 x.f2 x.f3) false :=
      Ev.step (f := fun _ => some false) (fun f => by rw [countermandref07_One.j5, if_pos rfl]) (Ev.now _)
    have key : Ev (fun f => countermandref07_One.j5 f l (i : Int) w (k : Int) (decide (opAt l k = 21 ∧ late x.f0 = true)) x.f0 x.f1 x.f2 x.f3) (loopB l x.f0 (d + 1) k w) := by
      by_cases hb : opAt l k = 21 ∧ late x.f0 = true
      · rw [decide_eq_true hb]; unfold loopB; rw [if_pos hb]; exact stop
      · rw [decide_eq_false hb]; unfold loopB; rw [if_neg hb]; exact go
    refine Ev.step (fun f => ?_) key
    rw [countermandref07_One.l0, if_pos (by omega), if_pos (by omega), if_pos (by omega), rd_op hk]
    by_cases h21 : opAt l k = 21
    · rw [if_pos h21]
      by_cases a : x.f0 = 14
      · rw [if_pos a, decide_eq_true ⟨h21, (late_iff _).2 (by omega)⟩]
      rw [if_neg a]
      by_cases b : x.f0 = 19
      · rw [if_pos b, decide_eq_true ⟨h21, (late_iff _).2 (by omega)⟩]
      rw [if_neg b]
      by_cases c : x.f0 = 20
      · rw [if_pos c, decide_eq_true ⟨h21, (late_iff _).2 (by omega)⟩]
      rw [if_neg c]
      by_cases e : x.f0 = 21
      · rw [decide_eq_true ⟨h21, (late_iff _).2 (by omega)⟩, show (x.f0 == 21) = true by simp [e]]
      · rw [decide_eq_false (fun h => by have := (late_iff _).1 h.2; omega), show (x.f0 == 21) = false by simp [e]]
    · rw [if_neg h21, decide_eq_false (fun h => h21 h.1)]
def blk (l : List S71) (i : Nat) : Int := if opAt l i = 4 then -1 else scanB l i
theorem blk_range (l : List S71) (i : Nat) : blk l i = -1 ∨ (0 ≤ blk l i ∧ blk l i < (i : Int)) := by
  unfold blk
  split
  · exact .inl rfl
  · exact scanB_range l i
def outB (op t : Int) : Bool := (decide (op = 0 ∨ op = 4) && decide (t ≥ 0)) || (decide (op > 4) && decide (t < 0))
def goB (l : List S71) (i : Nat) (A t : Int) : Bool :=
  if A ≤ (i : Int) ∨ A > (l.length : Int) then false else if A = (l.length : Int) then decide (t < 0) else blk l A.toNat == t
def restB (l : List S71) (op : Int) (i : Nat) (t : Int) : Bool := loopB l op (i - (t + 1).toNat) (t + 1).toNat 0
def oneB (l : List S71) (i : Nat) (x : S71) : Bool :=
  fieldsB x && !outB x.f0 (blk l i) && (!(decide (x.f0 = 3) || decide (x.f0 = 20)) || goB l i x.f1 (blk l i)) && restB l x.f0 i (blk l i)
theorem j3_ev (l : List S71) (hl : l.length ≤ 100) (x : S71) (i : Nat) (hi : i < l.length) (t : Int) (ht : t = -1 ∨ (0 ≤ t ∧ t < (i : Int))) :
    Ev (fun f => countermandref07_One.j3 f l (i : Int) t x.f0 x.f1 x.f2 x.f3) (restB l x.f0 i t) := by
  have e : wrap64 (t + 1) = (((t + 1).toNat : Nat) : Int) := by rw [wrap_in _ (by omega) (by omega)]; omega
  refine Ev.step (f := fun f => countermandref07_One.l0 f l (i : Int) 0 (((t + 1).toNat : Nat) : Int) x.f0 x.f1 x.f2 x.f3) (fun f => ?_) ?_
  · rw [countermandref07_One.j3, e]
  · exact loop_ev l hl x i (by omega) _ _ 0 (by omega) (by omega) (by omega)
theorem j2_ev (l : List S71) (hl : l.length ≤ 100) (x : S71) (i : Nat) (hi : i < l.length) (t : Int) (ht : t = -1 ∨ (0 ≤ t ∧ t < (i : Int))) (b : Bool) :
    Ev (fun f => countermandref07_One.j2 f l (i : Int) t b x.f0 x.f1 x.f2 x.f3) ((!b || goB l i x.f1 t) && restB l x.f0 i t) := by
  have J := j3_ev l hl x i hi t ht
  cases b
  · refine Ev.step (f := fun f => countermandref07_One.j3 f l (i : Int) t x.f0 x.f1 x.f2 x.f3) (fun f => ?_) (Ev.eq J (by simp))
    rw [countermandref07_One.j2, if_neg (by decide)]
  · refine Ev.step (fun f => by rw [countermandref07_One.j2, if_pos rfl]) ?_
    unfold goB
    by_cases h1 : x.f1 ≤ (i : Int)
    · exact Ev.congr (fun f => if_pos h1) (Ev.eq (Ev.now _) (by rw [if_pos (.inl h1)]; rfl))
    refine Ev.congr (fun f => if_neg h1) ?_
    by_cases h2 : x.f1 > (l.length : Int)
    · exact Ev.congr (fun f => if_pos h2) (Ev.eq (Ev.now _) (by rw [if_pos (.inr h2)]; rfl))
    refine Ev.congr (fun f => if_neg h2) ?_
    rw [if_neg (show ¬ (x.f1 ≤ (i : Int) ∨ x.f1 > (l.length : Int)) by omega)]
    by_cases h3 : x.f1 = (l.length : Int)
    · refine Ev.congr (fun f => if_pos h3) ?_
      rw [if_pos h3]
      by_cases h4 : t ≥ 0
      · exact Ev.congr (fun f => if_pos h4) (Ev.eq (Ev.now _) (by rw [decide_eq_false (show ¬ t < 0 by omega)]; rfl))
      · refine Ev.congr (fun f => by rw [if_neg h4, if_neg (by omega)]) (Ev.eq J (by rw [decide_eq_true (show t < 0 by omega)]; rfl))
    · refine Ev.congr (fun f => by rw [if_neg h3, if_pos (show x.f1 < (l.length : Int) by omega)]) ?_
      rw [if_neg h3]
      have B := block_ev l hl x.f1.toNat (by omega)
      rw [show ((x.f1.toNat : Nat) : Int) = x.f1 by omega] at B
      refine Ev.bind B ?_
      by_cases h5 : blk l x.f1.toNat = t
      · exact Ev.congr (fun f => if_pos h5) (Ev.eq J (by simp [h5]))
      · exact Ev.congr (fun f => if_neg h5) (Ev.eq (Ev.now _) (by simp [h5]))
theorem j1_ev (l : List S71) (hl : l.length ≤ 100) (x : S71) (i : Nat) (hi : i < l.length) (t : Int) (ht : t = -1 ∨ (0 ≤ t ∧ t < (i : Int))) (b : Bool) :
    Ev (fun f => countermandref07_One.j1 f l (i : Int) t b x.f0 x.f1 x.f2 x.f3) (!b && ((!(decide (x.f0 = 3) || decide (x.f0 = 20)) || goB l i x.f1 t) && restB l x.f0 i t)) := by
  cases b
  · refine Ev.step (f := fun f => countermandref07_One.j2 f l (i : Int) t (decide (x.f0 = 3) || decide (x.f0 = 20)) x.f0 x.f1 x.f2 x.f3) (fun f => ?_) (Ev.eq (j2_ev l hl x i hi t ht _) (by simp))
    rw [countermandref07_One.j1, if_neg (by decide)]
    by_cases h3 : x.f0 = 3
    · rw [if_pos h3]; simp [h3]
    · rw [if_neg h3]; simp [h3]; rfl
  · exact Ev.step (f := fun _ => some false) (fun f => by rw [countermandref07_One.j1, if_pos rfl]) (Ev.now _)
theorem j0_ev (l : List S71) (hl : l.length ≤ 100) (x : S71) (i : Nat) (hi : i < l.length) (b : Bool) :
    Ev (fun f => countermandref07_One.j0 f l (i : Int) b x.f0 x.f1 x.f2 x.f3) (!b && (!outB x.f0 (blk l i) && ((!(decide (x.f0 = 3) || decide (x.f0 = 20)) || goB l i x.f1 (blk l i)) && restB l x.f0 i (blk l i)))) := by
  cases b
  · refine Ev.step (fun f => by rw [countermandref07_One.j0, if_neg (by decide)]) ?_
    have B : Ev (fun k => countermandref07_Block.f k l (i : Int)) (blk l i) := block_ev l hl i hi
    have ht := blk_range l i
    generalize blk l i = t at B ht ⊢
    refine Ev.bind B ?_
    have J := fun b => j1_ev l hl x i hi t ht b
    have K : ∀ b, b = outB x.f0 t → Ev (fun f => countermandref07_One.j1 f l (i : Int) t b x.f0 x.f1 x.f2 x.f3) (!false && (!outB x.f0 t && ((!(decide (x.f0 = 3) || decide (x.f0 = 20)) || goB l i x.f1 t) && restB l x.f0 i t))) := by
      rintro b rfl
      exact Ev.eq (J _) (by simp)
    unfold outB at K ⊢
    by_cases h0 : x.f0 = 0
    · refine Ev.congr (fun f => if_pos h0) ?_
      by_cases h1 : t ≥ 0
      · exact Ev.congr (fun f => if_pos h1) (K true (by simp [h0, h1]))
      · exact Ev.congr (fun f => by rw [if_neg h1, if_neg (by omega)]) (K false (by simp [h0, h1]))
    refine Ev.congr (fun f => if_neg h0) ?_
    by_cases h4 : x.f0 = 4
    · refine Ev.congr (fun f => if_pos h4) ?_
      by_cases h1 : t ≥ 0
      · exact Ev.congr (fun f => if_pos h1) (K true (by simp [h4, h1]))
      · exact Ev.congr (fun f => by rw [if_neg h1, if_neg (by omega)]) (K false (by simp [h4, h1]))
    refine Ev.congr (fun f => if_neg h4) ?_
    by_cases h5 : x.f0 > 4
    · exact Ev.congr (fun f => if_pos h5) (K (decide (t < 0)) (by simp [h0, h4, h5]))
    · exact Ev.congr (fun f => if_neg h5) (K false (by simp [h0, h4, h5]))
  · exact Ev.step (f := fun _ => some false) (fun f => by rw [countermandref07_One.j0, if_pos rfl]) (Ev.now _)
theorem rd_el {l : List S71} {i : Nat} (h : i < l.length) : rd_T71 l (i : Int) = l[i] := by
  unfold rd_T71
  rw [Int.toNat_natCast, List.getD_eq_getElem?_getD, List.getElem?_eq_getElem h]
  rfl
theorem one_ev (l : List S71) (hl : l.length ≤ 100) (hw : ∀ x ∈ l, Wf x) (i : Nat) (hi : i < l.length) : Ev (fun k => countermandref07_One.f k l (i : Int)) (oneB l i l[i]) := by
  obtain ⟨q, hq, hf⟩ := limits_fields l[i] (hw _ (List.getElem_mem hi))
  have hL : Ev (fun k => countermandref07_limits.f k l[i].f0) q := Ev.of (fun k => countermandref07_limits.mono _ k) hq
  unfold countermandref07_One.f
  refine Ev.congr (fun k => by rw [if_pos (by omega), if_pos (by omega), rd_el hi]) ?_
  refine Ev.bind hL ?_
  have J := j0_ev l hl l[i] i hi
  generalize l[i] = x at hf J ⊢
  have K : ∀ b, b = !fieldsB x → Ev (fun f => countermandref07_One.j0 f l (i : Int) b x.f0 x.f1 x.f2 x.f3) (oneB l i x) := by
    rintro b rfl
    refine Ev.eq (J _) ?_
    unfold oneB
    simp [Bool.and_assoc]
  have no : ¬ inLim x q → (true = !fieldsB x) := fun h => by
    have : ¬ fieldsB x = true := fun e => h (hf.1 e)
    simp [Bool.eq_false_iff.2 this]
  have yes : inLim x q → (false = !fieldsB x) := fun h => by
    rw [hf.2 h]; rfl
  unfold inLim at no yes
  by_cases h0 : q.2.2.2.2.2.2 = true
  · refine Ev.congr (fun f => if_pos h0) ?_
    by_cases h1 : x.f1 < q.1
    · exact Ev.congr (fun f => if_pos h1) (K true (no (by omega)))
    refine Ev.congr (fun f => if_neg h1) ?_
    by_cases h2 : x.f1 > q.2.1
    · exact Ev.congr (fun f => if_pos h2) (K true (no (by omega)))
    refine Ev.congr (fun f => if_neg h2) ?_
    by_cases h3 : x.f2 < q.2.2.1
    · exact Ev.congr (fun f => if_pos h3) (K true (no (by omega)))
    refine Ev.congr (fun f => if_neg h3) ?_
    by_cases h4 : x.f2 > q.2.2.2.1
    · exact Ev.congr (fun f => if_pos h4) (K true (no (by omega)))
    refine Ev.congr (fun f => if_neg h4) ?_
    by_cases h5 : x.f3 < q.2.2.2.2.1
    · exact Ev.congr (fun f => if_pos h5) (K true (no (by omega)))
    refine Ev.congr (fun f => if_neg h5) ?_
    by_cases h6 : x.f3 > q.2.2.2.2.2.1
    · exact Ev.congr (fun f => if_pos h6) (K true (no (by omega)))
    refine Ev.congr (fun f => if_neg h6) ?_
    by_cases h7 : x.f0 = 12
    · refine Ev.congr (fun f => if_pos h7) ?_
      by_cases h8 : x.f1 = x.f2
      · have := no (fun h => h.2.2.2.2.2.2.2 ⟨h7, h8⟩)
        exact K _ (by rw [← this]; simp [h8])
      · have := yes ⟨h0, by omega, by omega, by omega, by omega, by omega, by omega, fun h => h8 h.2⟩
        exact K _ (by rw [← this]; simp [h8])
    · exact Ev.congr (fun f => if_neg h7) (K false (yes ⟨h0, by omega, by omega, by omega, by omega, by omega, by omega, fun h => h7 h.1⟩))
  · exact Ev.congr (fun f => if_neg h0) (K true (no (fun h => h0 h.1)))
/-! the walk's state is the block's -/
def any21 (l : List S71) : Nat → Nat → Bool
  | _, 0 => false
  | a, d + 1 => decide (opAt l a = 21) || any21 l (a + 1) d
def cnt20 (l : List S71) : Nat → Nat → Int
  | _, 0 => 0
  | a, d + 1 => (if opAt l a = 20 then 1 else 0) + cnt20 l (a + 1) d
theorem any21_snoc (l : List S71) : ∀ (d a : Nat), any21 l a (d + 1) = (any21 l a d || decide (opAt l (a + d) = 21))
  | 0, a => by simp [any21]
  | d + 1, a => by
    have ih := any21_snoc l d (a + 1)
    rw [any21, ih, any21, show a + 1 + d = a + (d + 1) by omega, Bool.or_assoc]
theorem cnt20_snoc (l : List S71) : ∀ (d a : Nat), cnt20 l a (d + 1) = cnt20 l a d + (if opAt l (a + d) = 20 then 1 else 0)
  | 0, a => by simp [cnt20]
  | d + 1, a => by
    have ih := cnt20_snoc l d (a + 1)
    rw [cnt20, ih, cnt20, show a + 1 + d = a + (d + 1) by omega]
    omega
theorem loopB_eq (l : List S71) (op : Int) : ∀ (d k : Nat) (w : Int), loopB l op d k w = (!(any21 l k d && late op) && (if op = 20 then decide (w + cnt20 l k d < 3) else true))
  | 0, k, w => by simp [loopB, any21, cnt20]
  | d + 1, k, w => by
    have ih := fun w => loopB_eq l op d (k + 1) w
    unfold loopB any21 cnt20
    by_cases h : opAt l k = 21 ∧ late op = true
    · rw [if_pos h]; simp [h.1, h.2]
    · rw [if_neg h, ih]
      by_cases h20 : opAt l k = 20
      · simp only [h20, if_true]
        rw [show w + 1 + cnt20 l (k + 1) d = w + (1 + cnt20 l (k + 1) d) by omega]
        simp
      · simp only [h20, if_false, Int.zero_add]
        by_cases h21 : opAt l k = 21
        · have hl : late op = false := by
            cases e : late op
            · rfl
            · exact absurd ⟨h21, e⟩ h
          simp [h21, hl]
        · simp [h21]
def WInv (l : List S71) (i : Nat) (sure : Bool) (ways : Int) : Prop := 0 ≤ ways ∧ ways ≤ 3 ∧ (0 ≤ scanB l i → sure = any21 l (scanB l i + 1).toNat (i - (scanB l i + 1).toNat) ∧ ways = cnt20 l (scanB l i + 1).toNat (i - (scanB l i + 1).toNat))
theorem winv_next {l : List S71} {i : Nat} {x : S71} {sure : Bool} {ways : Int} (ho : opAt l i = x.f0) (h : WInv l i sure ways) (hw : ways1 x ways ≤ 3) : WInv l (i + 1) (sure1 x sure || decide (x.f0 = 21)) (ways1 x ways) := by
  obtain ⟨h0, h1, h2⟩ := h
  have hr := scanB_range l i
  refine ⟨by unfold ways1; split <;> (try split) <;> omega, hw, fun ht => ?_⟩
  have hsc : scanB l (i + 1) = if x.f0 = 5 then -1 else if x.f0 = 4 then (i : Int) else scanB l i := by rw [scanB, ho]
  rw [hsc] at ht ⊢
  by_cases h5 : x.f0 = 5
  · rw [if_pos h5] at ht; omega
  rw [if_neg h5] at ht ⊢
  by_cases h4 : x.f0 = 4
  · rw [if_pos h4]
    have e : i + 1 - ((i : Int) + 1).toNat = 0 := by omega
    rw [e]
    unfold sure1 ways1 any21 cnt20
    rw [if_pos h4, if_pos h4]
    exact ⟨by simp [h4], rfl⟩
  rw [if_neg h4] at ht ⊢
  obtain ⟨s1, s2⟩ := h2 ht
  have e : i + 1 - (scanB l i + 1).toNat = (i - (scanB l i + 1).toNat) + 1 := by omega
  have e2 : (scanB l i + 1).toNat + (i - (scanB l i + 1).toNat) = i := by omega
  rw [e, any21_snoc, cnt20_snoc, e2, ho, ← s1, ← s2]
  unfold sure1 ways1
  rw [if_neg h4, if_neg h4]
  refine ⟨rfl, ?_⟩
  by_cases h20 : x.f0 = 20
  · rw [if_pos h20, if_pos h20]
  · rw [if_neg h20, if_neg h20]; omega
theorem fields_op {x : S71} (h : fieldsB x = true) : 0 ≤ x.f0 ∧ x.f0 ≤ 21 := by
  by_cases hop : 0 ≤ x.f0 ∧ x.f0 ≤ 21
  · exact hop
  · exfalso
    obtain ⟨op, A, B, C⟩ := x
    dsimp only at hop
    have hn : op ≠ 0 ∧ op ≠ 1 ∧ op ≠ 2 ∧ op ≠ 3 ∧ op ≠ 4 ∧ op ≠ 5 ∧ op ≠ 6 ∧ op ≠ 7 ∧ op ≠ 8 ∧ op ≠ 9 ∧ op ≠ 10 ∧ op ≠ 11 ∧ op ≠ 12 ∧ op ≠ 13 ∧ op ≠ 14 ∧ op ≠ 15 ∧ op ≠ 16 ∧ op ≠ 17 ∧ op ≠ 18 ∧ op ≠ 19 ∧ op ≠ 20 ∧ op ≠ 21 := by omega
    obtain ⟨n0, n1, n2, n3, n4, n5, n6, n7, n8, n9, n10, n11, n12, n13, n14, n15, n16, n17, n18, n19, n20, n21⟩ := hn
    simp [fieldsB, code_fields.f, code_fields.j0, code_things.f, code_things.j0, n0, n1, n2, n3, n4, n5, n6, n7, n8, n9, n10, n11, n12, n13, n14, n15, n16, n17, n18, n19, n20, n21] at h
theorem placed_out (op t : Int) (h : 0 ≤ op ∧ op ≤ 21) : placedB op (decide (t ≥ 0)) = !outB op t := by
  unfold placedB outB
  by_cases h1 : op = 1 ∨ op = 2 ∨ op = 3
  · rw [if_pos h1, decide_eq_false (show ¬ (op = 0 ∨ op = 4) by omega), decide_eq_false (show ¬ op > 4 by omega)]; rfl
  rw [if_neg h1]
  by_cases h2 : op = 0 ∨ op = 4
  · rw [if_pos h2, decide_eq_true h2, decide_eq_false (show ¬ op > 4 by omega)]; simp
  · rw [if_neg h2, decide_eq_false h2, decide_eq_true (show op > 4 by omega)]
    by_cases ht : t ≥ 0
    · rw [decide_eq_true ht, decide_eq_false (show ¬ t < 0 by omega)]; rfl
    · rw [decide_eq_false ht, decide_eq_true (show t < 0 by omega)]; rfl
def Sp (l : List S71) (sp : List Int) : Prop := ∀ j, j < l.length → sp.getD j 0 = scanB l j ∧ (opAt l j = 4 → scanB l j = -1)
theorem sp_blk {l : List S71} {sp : List Int} (h : Sp l sp) {j : Nat} (hj : j < l.length) : sp.getD j 0 = blk l j := by
  obtain ⟨h1, h2⟩ := h j hj
  rw [h1]
  unfold blk
  by_cases h4 : opAt l j = 4
  · rw [if_pos h4, h2 h4]
  · rw [if_neg h4]
theorem stands_one {l : List S71} {sp : List Int} (hs : Sp l sp) {i : Nat} (hi : i < l.length) {x : S71} (_ho : opAt l i = x.f0) {sure : Bool} {ways : Int} (W : WInv l i sure ways) : stands l.length sp x i sure ways = oneB l i x := by
  obtain ⟨w0, w3, w2⟩ := W
  have et : sp.getD i 0 = blk l i := sp_blk hs hi
  have e1 : sp.getD i 0 = scanB l i := (hs i hi).1
  have eb : blk l i = scanB l i := by rw [← et, e1]
  unfold stands oneB
  rw [et]
  by_cases hf : fieldsB x = true
  · have hop := fields_op hf
    rw [placed_out _ _ hop]
    by_cases hp : outB x.f0 (blk l i) = true
    · rw [hp]; simp
    · have hg : landsB l.length sp i x.f1 = goB l i x.f1 (blk l i) := by
        unfold landsB goB
        by_cases h1 : x.f1 ≤ (i : Int) ∨ x.f1 > (l.length : Int)
        · rw [if_pos h1, if_pos h1]
        rw [if_neg h1, if_neg h1]
        by_cases h2 : x.f1 = (l.length : Int)
        · rw [if_pos h2, if_pos h2, et]
        · rw [if_neg h2, if_neg h2, et, sp_blk hs (by omega)]
      rw [hg]
      have hrest : (decide (ways1 x ways ≤ 3) && !(sure1 x sure && late x.f0)) = restB l x.f0 i (blk l i) := by
        unfold restB
        rw [loopB_eq]
        unfold ways1 sure1
        by_cases h4 : x.f0 = 4
        · have hl : late x.f0 = false := by unfold late; simp [h4]
          rw [if_pos h4, if_pos h4, hl, if_neg (show ¬ x.f0 = 20 by omega)]; simp
        rw [if_neg h4, if_neg h4]
        by_cases hl : late x.f0 = true
        · have hge : 0 ≤ scanB l i := by
            have := (late_iff _).1 hl
            unfold outB at hp
            rw [eb, decide_eq_true (show x.f0 > 4 by omega)] at hp
            simp at hp
            omega
          obtain ⟨s1, s2⟩ := w2 hge
          rw [eb, ← s1, ← s2, hl]
          by_cases h20 : x.f0 = 20
          · rw [if_pos h20, if_pos h20]
            by_cases h : ways + 1 ≤ 3
            · rw [decide_eq_true h, decide_eq_true (show 0 + ways < 3 by omega)]; simp
            · rw [decide_eq_false h, decide_eq_false (show ¬ 0 + ways < 3 by omega)]; simp
          · rw [if_neg h20, if_neg h20, decide_eq_true w3]; simp
        · have h20 : ¬ x.f0 = 20 := fun e => hl ((late_iff _).2 (.inr (.inr (.inl e))))
          rw [if_neg h20, if_neg h20, Bool.eq_false_iff.2 hl, decide_eq_true w3]; simp
      rw [← hrest]
      simp [Bool.and_assoc]
  · rw [Bool.eq_false_iff.2 hf]; simp
def firstGo (l : List S71) : List S71 → Nat → Int × Int
  | [], _ => (0, 0)
  | x :: r, i => if oneB l i x = true then firstGo l r (i + 1) else ((i : Int), 11)
theorem chk_first {l : List S71} {sp : List Int} (hs : Sp l sp) : ∀ (r : List S71) (i : Nat) (sure : Bool) (ways : Int), l.drop i = r → WInv l i sure ways → chkGo l.length sp r i sure ways = firstGo l r i
  | [], i, sure, ways, h, W => rfl
  | x :: r, i, sure, ways, h, W => by
    have hlt := (rd_at h).2.1
    have ho := opAt_drop h
    have e := stands_one hs hlt ho W
    unfold chkGo firstGo
    rw [e]
    by_cases h1 : oneB l i x = true
    · rw [if_pos h1, if_pos h1]
      have hst : stands l.length sp x i sure ways = true := by rw [e]; exact h1
      exact chk_first hs r (i + 1) _ _ (drop_next h) (winv_next ho W (stands_parts hst).2.2.2.1)
    · rw [if_neg h1, if_neg h1]
/-- what Check answers, as the document has it -/
theorem check_first (l : List S71) : checkL l = if l.length > 48 then (0, 3) else if (spansGo l (-1) 0).isSome = true then firstGo l l 0 else (0, 11) := by
  unfold checkL
  by_cases h : l.length > 48
  · rw [if_pos h, if_pos h]
  rw [if_neg h, if_neg h]
  cases hg : spansGo l (-1) 0 with
  | none => rfl
  | some sp =>
    have hsp := (spans_scan l l 0 sp rfl (by omega) hg).1
    have hs : Sp l sp := fun j hj => by have := hsp j hj; rwa [Nat.zero_add] at this
    exact chk_first hs l 0 false 0 rfl ⟨by omega, by omega, fun h => by have : scanB l 0 = -1 := rfl; omega⟩
theorem wf_of {l : List S71} (h : ∀ x ∈ l, (Lit.int .i64 x.f0).wf = true ∧ (Lit.int .i64 x.f1).wf = true ∧ (Lit.int .i64 x.f2).wf = true ∧ (Lit.int .i64 x.f3).wf = true) : ∀ x ∈ l, Wf x := fun x hx => by
  obtain ⟨_, h1, h2, h3⟩ := h x hx
  exact ⟨bounds_i64 h1, bounds_i64 h2, bounds_i64 h3⟩
theorem ref_loop (l : List S71) (hl : l.length ≤ 100) (hw : ∀ x ∈ l, Wf x) : ∀ (r : List S71) (i : Nat), l.drop i = r → i ≤ l.length →
    Ev (fun k => countermandref07_Check.l0 k l (l.length : Int) (i : Int)) (firstGo l r i)
  | [], i, h, hi => by
    have := drop_end h hi
    refine Ev.step (f := fun _ => some (0, 0)) (fun k => ?_) (Ev.now _)
    rw [countermandref07_Check.l0, if_neg (by omega)]
  | x :: r, i, h, hi => by
    have hlt := (rd_at h).2.1
    have hx : l[i] = x := by
      rw [List.drop_eq_getElem_cons hlt] at h
      injection h
    have O := one_ev l hl hw i hlt
    rw [hx] at O
    refine Ev.step (f := fun k => (countermandref07_One.f k l (i : Int)).bind fun t196 => (if t196 = true then (countermandref07_Check.l0 k l (l.length : Int) (wrap64 ((i : Int) + 1))) else (some ((i : Int), 11)))) (fun k => ?_) (Ev.bind O ?_)
    · rw [countermandref07_Check.l0, if_pos (by omega)]
    · unfold firstGo
      by_cases h1 : oneB l i x = true
      · rw [if_pos h1]
        refine Ev.congr (fun k => if_pos h1) ?_
        rw [wrap_next i l.length hlt (by omega)]
        exact ref_loop l hl hw r (i + 1) (drop_next h) (by omega)
      · rw [if_neg h1]
        exact Ev.congr (fun k => if_neg h1) (Ev.now _)
theorem ref_ev (l : List S71) (hl : l.length ≤ 100) (hw : ∀ x ∈ l, Wf x) : Ev (fun k => countermandref07_Check.f k l) (checkL l) := by
  rw [check_first]
  unfold countermandref07_Check.f
  by_cases h : l.length > 48
  · rw [if_pos h]; exact Ev.congr (fun k => if_pos (by omega)) (Ev.now _)
  rw [if_neg h]
  refine Ev.congr (fun k => if_neg (by omega)) (Ev.bind (shaped_ev l hl) ?_)
  by_cases hs : (spansGo l (-1) 0).isSome = true
  · rw [if_pos hs]
    exact Ev.congr (fun k => if_pos hs) (ref_loop l hl hw l 0 rfl (by omega))
  · rw [if_neg hs]
    exact Ev.congr (fun k => if_neg hs) (Ev.now _)
theorem count_loop (l : List S71) (hl : l.length ≤ 100) (a b : Int) : ∀ (r : List S71) (i n : Nat), l.drop i = r → i ≤ l.length → n ≤ i → n + blocksL r = blocksL l →
    Ev (fun k => countermandlaw07_CodeChecks.l0 k l a b a b (n : Int) l (l.length : Int) (i : Int)) true
  | [], i, n, h, hi, hn, he => by
    have := drop_end h hi
    have B := blocks_ev l (by omega)
    refine Ev.step (f := fun k => (code_Blocks.f k l).bind fun t => some (t == (n : Int))) (fun k => ?_) (Ev.bind B ?_)
    · rw [countermandlaw07_CodeChecks.l0, if_neg (by omega), if_pos rfl, if_pos rfl]
    · have hb : blocksL [] = 0 := rfl
      refine Ev.eq (Ev.now _) ?_
      rw [← he, hb]; simp
  | x :: r, i, n, h, hi, hn, he => by
    obtain ⟨hx, hlt, hr⟩ := rd_at h
    have hw := wrap_next i l.length hlt (by omega)
    have hw2 := wrap_next n l.length (by omega) (by omega)
    by_cases h4 : x.f0 = 4
    · refine Ev.step (f := fun k => countermandlaw07_CodeChecks.l0 k l a b a b ((n + 1 : Nat) : Int) l (l.length : Int) ((i + 1 : Nat) : Int)) (fun k => ?_) (count_loop l hl a b r (i + 1) (n + 1) hr (by omega) (by omega) ?_)
      · rw [countermandlaw07_CodeChecks.l0, if_pos (by omega), if_pos (by omega), if_pos (by omega), hx, if_pos h4, hw, hw2]
      · unfold blocksL at he ⊢; rw [List.countP_cons_of_pos (by simpa using h4)] at he; omega
    · refine Ev.step (f := fun k => countermandlaw07_CodeChecks.l0 k l a b a b (n : Int) l (l.length : Int) ((i + 1 : Nat) : Int)) (fun k => ?_) (count_loop l hl a b r (i + 1) n hr (by omega) (by omega) ?_)
      · rw [countermandlaw07_CodeChecks.l0, if_pos (by omega), if_pos (by omega), if_pos (by omega), hx, if_neg h4, hw]
      · unfold blocksL at he ⊢; rw [List.countP_cons_of_neg (by simpa using h4)] at he; exact he
theorem CodeChecks : countermandlaw07_CodeChecks.Pure := by
  intro l _ hwf
  have hw := wf_of hwf
  apply Ev.rounds
  unfold countermandlaw07_CodeChecks.f
  refine Ev.bind alive_ev ?_
  refine Ev.congr (fun k => if_pos rfl) ?_
  by_cases h100 : (l.length : Int) > 100
  · exact Ev.congr (fun k => if_pos h100) (Ev.now _)
  refine Ev.congr (fun k => if_neg h100) ?_
  refine Ev.bind (check_ev l) (Ev.bind (ref_ev l (by omega) hw) ?_)
  exact count_loop l (by omega) _ _ l 0 0 rfl (by omega) (by omega) (by omega)

end Go.Proofs.Ytfoefgckjaafnaa.Pure
