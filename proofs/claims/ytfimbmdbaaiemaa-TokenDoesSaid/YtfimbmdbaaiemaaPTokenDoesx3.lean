/- Written by a program of this session, which began as the kit's print and is turned in wip/printer: the plain form of each function, and that the Go code comes to it. -/
import Derived.Test.YtfimbmdbaaiemaaPTokenDoesx0
import Derived.Test.YtfimbmdbaaiemaaPTokenDoesx1
import Derived.Test.YtfimbmdbaaiemaaPTokenDoesx2
namespace Go.Proofs.Ytfimbmdbaaiemaa.PTokenDoes
open Go.RowKit Go.Proofs.YtfimbmdbaaiemaaW.PrintWords Go.Proofs.YtfimbmdbaaiemaaW.PrintLast Go.Proofs.YtfimbmdbaaiemaaW.PrintMore
attribute [local go_sem] max2_int min2_int max_two min_two max_three min_three max_four min_four   -- for this text's walks alone
set_option linter.unusedVariables false
set_option linter.unusedSimpArgs false

/-! ### countermandlaw19_TokenDoes: function 10 -/
set_option maxHeartbeats 8000000 in
set_option maxRecDepth 100000 in
theorem countermandlaw19_TokenDoes.calls (k : Nat) (A0 : Option Addr) (c0 : Nat) (l0 : List (S49)) (a1 : Int) (r : Bool) (w : World) (hr0 : Kd.C k49 w A0 l0.length l0) (hc0 : l0.length ≤ c0) (h : countermandlaw19_TokenDoes.f k l0 a1 = some r) (hrT : r = true) :
    Calls Try.prog 10 #[.slice A0 l0.length c0, .int .i64 a1] w fun e w' => e = .returned (.bool r) ∧ Below w.heap.size w w' := by
 have hu55 := Try.underlying55
 have hu49 := Try.underlying49
 have HR0 := Aside0.mk hr0
 have HC0 := Aside0.mk hc0
 clear hr0 hc0
 have HB := Aside0.mk (Below.refl w.heap.size w)
 have H : ((countermandlaw19_alive.f).bind fun t138 => (if t138 = true then (if (l0.length : Int) > 100 then (some true) else ((token_New.f).bind fun bt139 => (countermandlaw19_TokenDoes.l0 k a1 l0 (l0.length : Int) 0 bt139.1 bt139.2.1 bt139.2.2 (-1) false (-1)))) else (some false))) = some r := h
 clear h
 replace H := Option.bind_eq_some_iff.mp H
 obtain ⟨t138, A30, H⟩ := H
 replace H : (if t138 = true then (if (l0.length : Int) > 100 then (some true) else ((token_New.f).bind fun bt139 => (countermandlaw19_TokenDoes.l0 k a1 l0 (l0.length : Int) 0 bt139.1 bt139.2.1 bt139.2.2 (-1) false (-1)))) else (some false)) = some r := H
 have A3 := Aside0.mk A30
 clear A30
 by_cases c4 : t138 = true
 rotate_left
 ·replace c4 := Bool.eq_false_iff.mpr c4
  subst c4
  have H1 : (some false) = some r := by rw [if_neg (show ¬ (false = true) by decide)] at H; exact H
  clear H
  have H := H1
  clear H1
  obtain rfl := Option.some.inj H
  cases hrT

 subst c4
 have H1 : (if (l0.length : Int) > 100 then (some true) else ((token_New.f).bind fun bt139 => (countermandlaw19_TokenDoes.l0 k a1 l0 (l0.length : Int) 0 bt139.1 bt139.2.1 bt139.2.2 (-1) false (-1)))) = some r := by rw [if_pos rfl] at H; exact H
 clear H
 have H := H1
 clear H1
 by_cases c5 : (l0.length : Int) > 100
 ·rw [if_pos c5] at H
  have c5b0 : decide (100 < (l0.length : Int)) = true := decide_eq_true c5
  have c5b1 : decide (100 < l0.length) = true := decide_eq_true (by omega)
  clear c5
  obtain rfl := Option.some.inj H
  clear hrT
  go_enter Try.func10, Try.ntmps10
  go_wp2_with (first | ((with_reducible refine gate_callee (f := 24) rfl ?_); refine goesL_ (some 15) rfl rfl Try.func24 (by kernel_rfl) rfl #[] rfl (by (try simp only [List.map_toArray, List.map_cons, List.map_nil]); first | done | rfl | (simp only [List.length_drop, List.length_take]; rfl)) ?_; (with_reducible refine (countermandlaw19_alive.calls  true _ A3.out).mono ?_); rintro e w6 ⟨rfl, hb⟩; refine ⟨_, rfl, ?_⟩; have n0_ := Aside0.mk (below_step (by repeat (first | (with_reducible first | exact HB.out | apply below_alloc | apply pw_below_drewN | apply below_drew1) | exact HB.out)) hb); clear HB; have HB := n0_; clear n0_; (try clear hb); (try clear hb2); (try clear hk); (try clear hi)))
  go_ret
  exact ⟨by first | rfl | (simp [errW_none, errW_some] <;> rfl) | (simp [*, errW_none, errW_some] <;> rfl), by repeat (first | (with_reducible first | exact HB.out | apply below_alloc | apply pw_below_drewN | apply below_drew1) | exact HB.out)⟩
 rw [if_neg c5] at H
 have c5b0 : decide (100 < (l0.length : Int)) = false := decide_eq_false c5
 have c5b1 : decide (100 < l0.length) = false := decide_eq_false (by omega)
 clear c5
 replace H := Option.bind_eq_some_iff.mp H
 obtain ⟨⟨t139, t140, t141⟩, A70, H⟩ := H
 replace H : (countermandlaw19_TokenDoes.l0 k a1 l0 (l0.length : Int) 0 t139 t140 t141 (-1) false (-1)) = some r := H
 have A7 := Aside0.mk A70
 clear A70
 have H' := Aside0.mk H
 clear H
 go_enter Try.func10, Try.ntmps10
 go_wp2_with (first | ((with_reducible refine gate_callee (f := 24) rfl ?_); refine goesL_ (some 15) rfl rfl Try.func24 (by kernel_rfl) rfl #[] rfl (by (try simp only [List.map_toArray, List.map_cons, List.map_nil]); first | done | rfl | (simp only [List.length_drop, List.length_take]; rfl)) ?_; (with_reducible refine (countermandlaw19_alive.calls  true _ A3.out).mono ?_); rintro e w8 ⟨rfl, hb⟩; refine ⟨_, rfl, ?_⟩; have n0_ := Aside0.mk (below_step (by repeat (first | (with_reducible first | exact HB.out | apply below_alloc | apply pw_below_drewN | apply below_drew1) | exact HB.out)) hb); clear HB; have HB := n0_; clear n0_; (try clear hb); (try clear hb2); (try clear hk); (try clear hi)) | ((with_reducible refine gate_callee (f := 25) rfl ?_); refine goesL_ (some 20) rfl rfl Try.func25 (by kernel_rfl) rfl #[] rfl (by (try simp only [List.map_toArray, List.map_cons, List.map_nil]); first | done | rfl | (simp only [List.length_drop, List.length_take]; rfl)) ?_; (with_reducible refine (token_New.calls  t139 t140 t141 w _ ?side1 A7.out).mono ?_); (case side1 => repeat (first | (with_reducible first | exact HB.out | apply below_alloc | apply pw_below_drewN | apply below_drew1) | exact HB.out)); rintro e w9 ⟨g142, rfl, hi, hb, hb2⟩; refine ⟨_, rfl, ?_⟩; have n0_ := Aside0.mk (hb); have n1_ := Aside0.mk (hi); clear HB; have HB := n0_; have HI142 := n1_; clear n0_ n1_; (try clear hb); (try clear hb2); (try clear hk); (try clear hi)) | ((with_reducible refine gate_dst (N := 22) rfl ?_); refine box_event ?hg (N := 22) ?hd (cs := #[.int .i64 (-1), .bool false, .int .i64 (-1)]) (t := 55) ?hr ?_; (case hd => rfl); (case hg => rfl); (case hr => first | (go_simp; done) | (go_simp; rfl)); intro gb143 hg w10 hbox hb; have n0_ := Aside0.mk (IsS66.below (by repeat (first | (with_reducible first | exact HI142.out | apply IsS66.alloc | apply IsS66.drewN | apply IsS66.drew | apply IsS66.set_0 | apply IsS66.set_1 | apply IsS66.set_2) | exact HI142.out)) hb); have n1_ := Aside0.mk (below_step (by repeat (first | (with_reducible first | exact HB.out | apply below_alloc | apply pw_below_drewN | apply below_drew1 | refine below_set ?_ (IsS66.ge HI142.out)) | exact HB.out)) hb); have n2_ := Aside0.mk ((by rw [hg]; exact Nat.ne_of_lt (IsS66.lt (show IsS66 w _ g142 t139 t140 t141 from by repeat (first | (with_reducible first | exact HI142.out | apply IsS66.alloc | apply IsS66.drewN | apply IsS66.drew | apply IsS66.set_0 | apply IsS66.set_1 | apply IsS66.set_2) | exact HI142.out))) : g142 ≠ gb143)); have n3_ := Aside0.mk ((by rw [hg]; exact Nat.ne_of_gt (IsS66.lt (show IsS66 w _ g142 t139 t140 t141 from by repeat (first | (with_reducible first | exact HI142.out | apply IsS66.alloc | apply IsS66.drewN | apply IsS66.drew | apply IsS66.set_0 | apply IsS66.set_1 | apply IsS66.set_2) | exact HI142.out))) : gb143 ≠ g142)); have n4_ := Aside0.mk ((show IsS55 w w10 gb143 (-1) false (-1) from ⟨hbox, (by rw [hg]; exact (below_size (by repeat (first | (with_reducible first | exact HB.out | apply below_alloc | apply pw_below_drewN | apply below_drew1 | refine below_set ?_ (IsS66.ge HI142.out)) | exact HB.out))) : w.heap.size ≤ gb143)⟩)); clear HI142; clear HB; have HI142 := n0_; have HB := n1_; have NB142_143 := n2_; have NB143_142 := n3_; have HI143 := n4_; clear n0_ n1_ n2_ n3_ n4_; clear hb hbox hg))
 go_loopg [25] k (fun kq v25 w' => ∃ (x25_1 : Int) (x143000_1 : Int) (x143001_1 : Bool) (x143002_1 : Int) (x144000_1 : Int) (x144001_1 : Bool) (x144002_1 : Int), v25 = .int .i64 x25_1 ∧ Aside0 (countermandlaw19_TokenDoes.l0 kq a1 l0 (l0.length : Int) x25_1 x143000_1 x143001_1 x143002_1 x144000_1 x144001_1 x144002_1 = some r) ∧ Aside0 (kq ≤ k) ∧ Aside0 (IsS66 w w' g142 x143000_1 x143001_1 x143002_1) ∧ Aside0 (IsS55 w w' gb143 x144000_1 x144001_1 x144002_1) ∧ Aside0 (Below w.heap.size w w'))
 case atStart => exact ⟨(0), (t139), (t140), (t141), ((-1)), (false), ((-1)), (by first | rfl | (simp; done) | (simp [*]; done)), H', ⟨Nat.le_refl _⟩, ⟨by repeat (first | (with_reducible first | exact HI142.out | apply IsS66.alloc | apply IsS66.drewN | apply IsS66.drew | apply IsS66.set_0 | apply IsS66.set_1 | apply IsS66.set_2) | exact HI142.out)⟩, ⟨by repeat (first | (with_reducible first | exact HI143.out | apply IsS55.alloc | apply IsS55.drewN | apply IsS55.drew | apply IsS55.set_0 | apply IsS55.set_1 | apply IsS55.set_2) | exact HI143.out)⟩, ⟨by repeat (first | (with_reducible first | exact HB.out | apply below_alloc | apply pw_below_drewN | apply below_drew1 | refine below_set ?_ (IsS66.ge HI142.out) | refine below_set ?_ (IsS55.ge HI143.out)) | exact HB.out)⟩⟩
 case round =>
  clear H'
  try clear c1
  try clear c2
  try clear p2
  try clear c4
  try clear c5
  try clear c5b0
  try clear c5b1
  try clear c10
  obtain ⟨x25_1, x143000_1, x143001_1, x143002_1, x144000_1, x144001_1, x144002_1, rfl, HA, HK1, HI142, HI143, HB⟩ := hrel
  cases gk with
  | zero => exact absurd HA.out (by simp [countermandlaw19_TokenDoes.l0])
  | succ k1 =>
   have H := HA.out
   clear HA
   simp only [countermandlaw19_TokenDoes.l0] at H
   by_cases c11 : x25_1 < (l0.length : Int)
   rotate_left
   ·rw [if_neg c11] at H
    have c11b0 : decide (x25_1 < (l0.length : Int)) = false := decide_eq_false c11
    clear c11
    replace H := Option.bind_eq_some_iff.mp H
    obtain ⟨t206, A1050, H⟩ := H
    replace H : (if t206 = true then (some false) else ((token_Token_Take_nil.f 0 true).bind fun t207 => (if t207 = true then (some false) else ((token_Token_Lock_nil.f 0).bind fun t208 => (if t208 = true then (some false) else ((token_Token_Unlock_nil.f 0).bind fun t209 => (if t209 = true then (some false) else ((token_Token_Drop_nil.f 0).bind fun t210 => (if t210 = true then (some false) else ((token_Token_Holder_nil.f).bind fun t211 => (if t211 = (-1) then ((token_Token_Commits_nil.f).bind fun t212 => (if t212 = (-1) then ((token_Token_Soft_nil.f).bind fun t213 => (if t213 = true then (some false) else ((token_Token_Sure_nil.f 0).bind fun t214 => (some (!t214))))) else (some false))) else (some false)))))))))))) = some r := H
    have A105 := Aside0.mk A1050
    clear A1050
    by_cases c106 : t206 = true
    ·subst c106
     have H1 : (some false) = some r := by rw [if_pos rfl] at H; exact H
     clear H
     have H := H1
     clear H1
     obtain rfl := Option.some.inj H
     cases hrT
    replace c106 := Bool.eq_false_iff.mpr c106
    subst c106
    have H1 : ((token_Token_Take_nil.f 0 true).bind fun t207 => (if t207 = true then (some false) else ((token_Token_Lock_nil.f 0).bind fun t208 => (if t208 = true then (some false) else ((token_Token_Unlock_nil.f 0).bind fun t209 => (if t209 = true then (some false) else ((token_Token_Drop_nil.f 0).bind fun t210 => (if t210 = true then (some false) else ((token_Token_Holder_nil.f).bind fun t211 => (if t211 = (-1) then ((token_Token_Commits_nil.f).bind fun t212 => (if t212 = (-1) then ((token_Token_Soft_nil.f).bind fun t213 => (if t213 = true then (some false) else ((token_Token_Sure_nil.f 0).bind fun t214 => (some (!t214))))) else (some false))) else (some false))))))))))) = some r := by rw [if_neg (show ¬ (false = true) by decide)] at H; exact H
    clear H
    have H := H1
    clear H1
    replace H := Option.bind_eq_some_iff.mp H
    obtain ⟨t207, A1070, H⟩ := H
    replace H : (if t207 = true then (some false) else ((token_Token_Lock_nil.f 0).bind fun t208 => (if t208 = true then (some false) else ((token_Token_Unlock_nil.f 0).bind fun t209 => (if t209 = true then (some false) else ((token_Token_Drop_nil.f 0).bind fun t210 => (if t210 = true then (some false) else ((token_Token_Holder_nil.f).bind fun t211 => (if t211 = (-1) then ((token_Token_Commits_nil.f).bind fun t212 => (if t212 = (-1) then ((token_Token_Soft_nil.f).bind fun t213 => (if t213 = true then (some false) else ((token_Token_Sure_nil.f 0).bind fun t214 => (some (!t214))))) else (some false))) else (some false)))))))))) = some r := H
    have A107 := Aside0.mk A1070
    clear A1070
    by_cases c108 : t207 = true
    ·subst c108
     have H1 : (some false) = some r := by rw [if_pos rfl] at H; exact H
     clear H
     have H := H1
     clear H1
     obtain rfl := Option.some.inj H
     cases hrT
    replace c108 := Bool.eq_false_iff.mpr c108
    subst c108
    have H1 : ((token_Token_Lock_nil.f 0).bind fun t208 => (if t208 = true then (some false) else ((token_Token_Unlock_nil.f 0).bind fun t209 => (if t209 = true then (some false) else ((token_Token_Drop_nil.f 0).bind fun t210 => (if t210 = true then (some false) else ((token_Token_Holder_nil.f).bind fun t211 => (if t211 = (-1) then ((token_Token_Commits_nil.f).bind fun t212 => (if t212 = (-1) then ((token_Token_Soft_nil.f).bind fun t213 => (if t213 = true then (some false) else ((token_Token_Sure_nil.f 0).bind fun t214 => (some (!t214))))) else (some false))) else (some false))))))))) = some r := by rw [if_neg (show ¬ (false = true) by decide)] at H; exact H
    clear H
    have H := H1
    clear H1
    replace H := Option.bind_eq_some_iff.mp H
    obtain ⟨t208, A1090, H⟩ := H
    replace H : (if t208 = true then (some false) else ((token_Token_Unlock_nil.f 0).bind fun t209 => (if t209 = true then (some false) else ((token_Token_Drop_nil.f 0).bind fun t210 => (if t210 = true then (some false) else ((token_Token_Holder_nil.f).bind fun t211 => (if t211 = (-1) then ((token_Token_Commits_nil.f).bind fun t212 => (if t212 = (-1) then ((token_Token_Soft_nil.f).bind fun t213 => (if t213 = true then (some false) else ((token_Token_Sure_nil.f 0).bind fun t214 => (some (!t214))))) else (some false))) else (some false)))))))) = some r := H
    have A109 := Aside0.mk A1090
    clear A1090
    by_cases c110 : t208 = true
    ·subst c110
     have H1 : (some false) = some r := by rw [if_pos rfl] at H; exact H
     clear H
     have H := H1
     clear H1
     obtain rfl := Option.some.inj H
     cases hrT
    replace c110 := Bool.eq_false_iff.mpr c110
    subst c110
    have H1 : ((token_Token_Unlock_nil.f 0).bind fun t209 => (if t209 = true then (some false) else ((token_Token_Drop_nil.f 0).bind fun t210 => (if t210 = true then (some false) else ((token_Token_Holder_nil.f).bind fun t211 => (if t211 = (-1) then ((token_Token_Commits_nil.f).bind fun t212 => (if t212 = (-1) then ((token_Token_Soft_nil.f).bind fun t213 => (if t213 = true then (some false) else ((token_Token_Sure_nil.f 0).bind fun t214 => (some (!t214))))) else (some false))) else (some false))))))) = some r := by rw [if_neg (show ¬ (false = true) by decide)] at H; exact H
    clear H
    have H := H1
    clear H1
    replace H := Option.bind_eq_some_iff.mp H
    obtain ⟨t209, A1110, H⟩ := H
    replace H : (if t209 = true then (some false) else ((token_Token_Drop_nil.f 0).bind fun t210 => (if t210 = true then (some false) else ((token_Token_Holder_nil.f).bind fun t211 => (if t211 = (-1) then ((token_Token_Commits_nil.f).bind fun t212 => (if t212 = (-1) then ((token_Token_Soft_nil.f).bind fun t213 => (if t213 = true then (some false) else ((token_Token_Sure_nil.f 0).bind fun t214 => (some (!t214))))) else (some false))) else (some false)))))) = some r := H
    have A111 := Aside0.mk A1110
    clear A1110
    by_cases c112 : t209 = true
    ·subst c112
     have H1 : (some false) = some r := by rw [if_pos rfl] at H; exact H
     clear H
     have H := H1
     clear H1
     obtain rfl := Option.some.inj H
     cases hrT
    replace c112 := Bool.eq_false_iff.mpr c112
    subst c112
    have H1 : ((token_Token_Drop_nil.f 0).bind fun t210 => (if t210 = true then (some false) else ((token_Token_Holder_nil.f).bind fun t211 => (if t211 = (-1) then ((token_Token_Commits_nil.f).bind fun t212 => (if t212 = (-1) then ((token_Token_Soft_nil.f).bind fun t213 => (if t213 = true then (some false) else ((token_Token_Sure_nil.f 0).bind fun t214 => (some (!t214))))) else (some false))) else (some false))))) = some r := by rw [if_neg (show ¬ (false = true) by decide)] at H; exact H
    clear H
    have H := H1
    clear H1
    replace H := Option.bind_eq_some_iff.mp H
    obtain ⟨t210, A1130, H⟩ := H
    replace H : (if t210 = true then (some false) else ((token_Token_Holder_nil.f).bind fun t211 => (if t211 = (-1) then ((token_Token_Commits_nil.f).bind fun t212 => (if t212 = (-1) then ((token_Token_Soft_nil.f).bind fun t213 => (if t213 = true then (some false) else ((token_Token_Sure_nil.f 0).bind fun t214 => (some (!t214))))) else (some false))) else (some false)))) = some r := H
    have A113 := Aside0.mk A1130
    clear A1130
    by_cases c114 : t210 = true
    ·subst c114
     have H1 : (some false) = some r := by rw [if_pos rfl] at H; exact H
     clear H
     have H := H1
     clear H1
     obtain rfl := Option.some.inj H
     cases hrT
    replace c114 := Bool.eq_false_iff.mpr c114
    subst c114
    have H1 : ((token_Token_Holder_nil.f).bind fun t211 => (if t211 = (-1) then ((token_Token_Commits_nil.f).bind fun t212 => (if t212 = (-1) then ((token_Token_Soft_nil.f).bind fun t213 => (if t213 = true then (some false) else ((token_Token_Sure_nil.f 0).bind fun t214 => (some (!t214))))) else (some false))) else (some false))) = some r := by rw [if_neg (show ¬ (false = true) by decide)] at H; exact H
    clear H
    have H := H1
    clear H1
    replace H := Option.bind_eq_some_iff.mp H
    obtain ⟨t211, A1150, H⟩ := H
    replace H : (if t211 = (-1) then ((token_Token_Commits_nil.f).bind fun t212 => (if t212 = (-1) then ((token_Token_Soft_nil.f).bind fun t213 => (if t213 = true then (some false) else ((token_Token_Sure_nil.f 0).bind fun t214 => (some (!t214))))) else (some false))) else (some false)) = some r := H
    have A115 := Aside0.mk A1150
    clear A1150
    by_cases c116 : t211 = (-1)
    rotate_left
    ·rw [if_neg c116] at H
     have c116b0 : (t211 == (-1)) = false := beq_eq_false_iff_ne.mpr c116
     have c116b1 : (t211 != (-1)) = true := bne_iff_ne.mpr c116
     obtain rfl := Option.some.inj H
     cases hrT
    rw [if_pos c116] at H
    have c116b0 : (t211 == (-1)) = true := beq_iff_eq.mpr c116
    have c116b1 : (t211 != (-1)) = false := bne_eq_false_iff_eq.mpr c116
    clear c116
    replace H := Option.bind_eq_some_iff.mp H
    obtain ⟨t212, A1170, H⟩ := H
    replace H : (if t212 = (-1) then ((token_Token_Soft_nil.f).bind fun t213 => (if t213 = true then (some false) else ((token_Token_Sure_nil.f 0).bind fun t214 => (some (!t214))))) else (some false)) = some r := H
    have A117 := Aside0.mk A1170
    clear A1170
    by_cases c118 : t212 = (-1)
    rotate_left
    ·rw [if_neg c118] at H
     have c118b0 : (t212 == (-1)) = false := beq_eq_false_iff_ne.mpr c118
     have c118b1 : (t212 != (-1)) = true := bne_iff_ne.mpr c118
     obtain rfl := Option.some.inj H
     cases hrT
    rw [if_pos c118] at H
    have c118b0 : (t212 == (-1)) = true := beq_iff_eq.mpr c118
    have c118b1 : (t212 != (-1)) = false := bne_eq_false_iff_eq.mpr c118
    clear c118
    replace H := Option.bind_eq_some_iff.mp H
    obtain ⟨t213, A1190, H⟩ := H
    replace H : (if t213 = true then (some false) else ((token_Token_Sure_nil.f 0).bind fun t214 => (some (!t214)))) = some r := H
    have A119 := Aside0.mk A1190
    clear A1190
    by_cases c120 : t213 = true
    ·subst c120
     have H1 : (some false) = some r := by rw [if_pos rfl] at H; exact H
     clear H
     have H := H1
     clear H1
     obtain rfl := Option.some.inj H
     cases hrT
    replace c120 := Bool.eq_false_iff.mpr c120
    subst c120
    have H1 : ((token_Token_Sure_nil.f 0).bind fun t214 => (some (!t214))) = some r := by rw [if_neg (show ¬ (false = true) by decide)] at H; exact H
    clear H
    have H := H1
    clear H1
    replace H := Option.bind_eq_some_iff.mp H
    obtain ⟨t214, A1210, H⟩ := H
    replace H : (some (!t214)) = some r := H
    have A121 := Aside0.mk A1210
    clear A1210
    obtain rfl := Option.some.inj H
    clear hrT
    go_wp2_with (first | ((with_reducible refine gate_callee (f := 34) rfl ?_); refine goesL_ (some 172) rfl rfl Try.func34 (by kernel_rfl) rfl #[.pointer none, .int .i64 0] rfl (by (try simp only [List.map_toArray, List.map_cons, List.map_nil]); first | done | rfl | (simp only [List.length_drop, List.length_take]; rfl)) ?_; (with_reducible refine (token_Token_Free_nil.calls 0 false _ A105.out).mono ?_); rintro e w122 ⟨rfl, hb⟩; refine ⟨_, rfl, ?_⟩; have n0_ := Aside0.mk (IsS66.below (by repeat (first | (with_reducible first | exact HI142.out | apply IsS66.alloc | apply IsS66.drewN | apply IsS66.drew | apply IsS66.set_0 | apply IsS66.set_1 | apply IsS66.set_2) | exact HI142.out)) hb); have n1_ := Aside0.mk (IsS55.below (by repeat (first | (with_reducible first | exact HI143.out | apply IsS55.alloc | apply IsS55.drewN | apply IsS55.drew | apply IsS55.set_0 | apply IsS55.set_1 | apply IsS55.set_2) | exact HI143.out)) hb); have n2_ := Aside0.mk (below_step (by repeat (first | (with_reducible first | exact HB.out | apply below_alloc | apply pw_below_drewN | apply below_drew1 | refine below_set ?_ (IsS66.ge HI142.out) | refine below_set ?_ (IsS55.ge HI143.out)) | exact HB.out)) hb); clear HI142; clear HI143; clear HB; have HI142 := n0_; have HI143 := n1_; have HB := n2_; clear n0_ n1_ n2_; (try clear hb); (try clear hb2); (try clear hk); (try clear hi)) | (go_at_call 26; (with_reducible refine (token_Token_Take_nil.calls 0 true false _ A107.out).mono ?_); rintro e w123 ⟨rfl, hb⟩; have n0_ := Aside0.mk (IsS66.below (by repeat (first | (with_reducible first | exact HI142.out | apply IsS66.alloc | apply IsS66.drewN | apply IsS66.drew | apply IsS66.set_0 | apply IsS66.set_1 | apply IsS66.set_2) | exact HI142.out)) hb); have n1_ := Aside0.mk (IsS55.below (by repeat (first | (with_reducible first | exact HI143.out | apply IsS55.alloc | apply IsS55.drewN | apply IsS55.drew | apply IsS55.set_0 | apply IsS55.set_1 | apply IsS55.set_2) | exact HI143.out)) hb); have n2_ := Aside0.mk (below_step (by repeat (first | (with_reducible first | exact HB.out | apply below_alloc | apply pw_below_drewN | apply below_drew1 | refine below_set ?_ (IsS66.ge HI142.out) | refine below_set ?_ (IsS55.ge HI143.out)) | exact HB.out)) hb); clear HI142; clear HI143; clear HB; have HI142 := n0_; have HI143 := n1_; have HB := n2_; clear n0_ n1_ n2_; (try clear hb); (try clear hb2); (try clear hk); (try clear hi)) | (go_at_call 27; (with_reducible refine (token_Token_Lock_nil.calls 0 false _ A109.out).mono ?_); rintro e w124 ⟨rfl, hb⟩; have n0_ := Aside0.mk (IsS66.below (by repeat (first | (with_reducible first | exact HI142.out | apply IsS66.alloc | apply IsS66.drewN | apply IsS66.drew | apply IsS66.set_0 | apply IsS66.set_1 | apply IsS66.set_2) | exact HI142.out)) hb); have n1_ := Aside0.mk (IsS55.below (by repeat (first | (with_reducible first | exact HI143.out | apply IsS55.alloc | apply IsS55.drewN | apply IsS55.drew | apply IsS55.set_0 | apply IsS55.set_1 | apply IsS55.set_2) | exact HI143.out)) hb); have n2_ := Aside0.mk (below_step (by repeat (first | (with_reducible first | exact HB.out | apply below_alloc | apply pw_below_drewN | apply below_drew1 | refine below_set ?_ (IsS66.ge HI142.out) | refine below_set ?_ (IsS55.ge HI143.out)) | exact HB.out)) hb); clear HI142; clear HI143; clear HB; have HI142 := n0_; have HI143 := n1_; have HB := n2_; clear n0_ n1_ n2_; (try clear hb); (try clear hb2); (try clear hk); (try clear hi)) | (go_at_call 28; (with_reducible refine (token_Token_Unlock_nil.calls 0 false _ A111.out).mono ?_); rintro e w125 ⟨rfl, hb⟩; have n0_ := Aside0.mk (IsS66.below (by repeat (first | (with_reducible first | exact HI142.out | apply IsS66.alloc | apply IsS66.drewN | apply IsS66.drew | apply IsS66.set_0 | apply IsS66.set_1 | apply IsS66.set_2) | exact HI142.out)) hb); have n1_ := Aside0.mk (IsS55.below (by repeat (first | (with_reducible first | exact HI143.out | apply IsS55.alloc | apply IsS55.drewN | apply IsS55.drew | apply IsS55.set_0 | apply IsS55.set_1 | apply IsS55.set_2) | exact HI143.out)) hb); have n2_ := Aside0.mk (below_step (by repeat (first | (with_reducible first | exact HB.out | apply below_alloc | apply pw_below_drewN | apply below_drew1 | refine below_set ?_ (IsS66.ge HI142.out) | refine below_set ?_ (IsS55.ge HI143.out)) | exact HB.out)) hb); clear HI142; clear HI143; clear HB; have HI142 := n0_; have HI143 := n1_; have HB := n2_; clear n0_ n1_ n2_; (try clear hb); (try clear hb2); (try clear hk); (try clear hi)) | (go_at_call 29; (with_reducible refine (token_Token_Drop_nil.calls 0 false _ A113.out).mono ?_); rintro e w126 ⟨rfl, hb⟩; have n0_ := Aside0.mk (IsS66.below (by repeat (first | (with_reducible first | exact HI142.out | apply IsS66.alloc | apply IsS66.drewN | apply IsS66.drew | apply IsS66.set_0 | apply IsS66.set_1 | apply IsS66.set_2) | exact HI142.out)) hb); have n1_ := Aside0.mk (IsS55.below (by repeat (first | (with_reducible first | exact HI143.out | apply IsS55.alloc | apply IsS55.drewN | apply IsS55.drew | apply IsS55.set_0 | apply IsS55.set_1 | apply IsS55.set_2) | exact HI143.out)) hb); have n2_ := Aside0.mk (below_step (by repeat (first | (with_reducible first | exact HB.out | apply below_alloc | apply pw_below_drewN | apply below_drew1 | refine below_set ?_ (IsS66.ge HI142.out) | refine below_set ?_ (IsS55.ge HI143.out)) | exact HB.out)) hb); clear HI142; clear HI143; clear HB; have HI142 := n0_; have HI143 := n1_; have HB := n2_; clear n0_ n1_ n2_; (try clear hb); (try clear hb2); (try clear hk); (try clear hi)) | (go_at_call 32; (with_reducible refine (token_Token_Holder_nil.calls  t211 _ A115.out).mono ?_); rintro e w127 ⟨rfl, hb⟩; have n0_ := Aside0.mk (IsS66.below (by repeat (first | (with_reducible first | exact HI142.out | apply IsS66.alloc | apply IsS66.drewN | apply IsS66.drew | apply IsS66.set_0 | apply IsS66.set_1 | apply IsS66.set_2) | exact HI142.out)) hb); have n1_ := Aside0.mk (IsS55.below (by repeat (first | (with_reducible first | exact HI143.out | apply IsS55.alloc | apply IsS55.drewN | apply IsS55.drew | apply IsS55.set_0 | apply IsS55.set_1 | apply IsS55.set_2) | exact HI143.out)) hb); have n2_ := Aside0.mk (below_step (by repeat (first | (with_reducible first | exact HB.out | apply below_alloc | apply pw_below_drewN | apply below_drew1 | refine below_set ?_ (IsS66.ge HI142.out) | refine below_set ?_ (IsS55.ge HI143.out)) | exact HB.out)) hb); clear HI142; clear HI143; clear HB; have HI142 := n0_; have HI143 := n1_; have HB := n2_; clear n0_ n1_ n2_; (try clear hb); (try clear hb2); (try clear hk); (try clear hi)) | (go_at_call 33; (with_reducible refine (token_Token_Commits_nil.calls  t212 _ A117.out).mono ?_); rintro e w128 ⟨rfl, hb⟩; have n0_ := Aside0.mk (IsS66.below (by repeat (first | (with_reducible first | exact HI142.out | apply IsS66.alloc | apply IsS66.drewN | apply IsS66.drew | apply IsS66.set_0 | apply IsS66.set_1 | apply IsS66.set_2) | exact HI142.out)) hb); have n1_ := Aside0.mk (IsS55.below (by repeat (first | (with_reducible first | exact HI143.out | apply IsS55.alloc | apply IsS55.drewN | apply IsS55.drew | apply IsS55.set_0 | apply IsS55.set_1 | apply IsS55.set_2) | exact HI143.out)) hb); have n2_ := Aside0.mk (below_step (by repeat (first | (with_reducible first | exact HB.out | apply below_alloc | apply pw_below_drewN | apply below_drew1 | refine below_set ?_ (IsS66.ge HI142.out) | refine below_set ?_ (IsS55.ge HI143.out)) | exact HB.out)) hb); clear HI142; clear HI143; clear HB; have HI142 := n0_; have HI143 := n1_; have HB := n2_; clear n0_ n1_ n2_; (try clear hb); (try clear hb2); (try clear hk); (try clear hi)) | (go_at_call 31; (with_reducible refine (token_Token_Soft_nil.calls  false _ A119.out).mono ?_); rintro e w129 ⟨rfl, hb⟩; have n0_ := Aside0.mk (IsS66.below (by repeat (first | (with_reducible first | exact HI142.out | apply IsS66.alloc | apply IsS66.drewN | apply IsS66.drew | apply IsS66.set_0 | apply IsS66.set_1 | apply IsS66.set_2) | exact HI142.out)) hb); have n1_ := Aside0.mk (IsS55.below (by repeat (first | (with_reducible first | exact HI143.out | apply IsS55.alloc | apply IsS55.drewN | apply IsS55.drew | apply IsS55.set_0 | apply IsS55.set_1 | apply IsS55.set_2) | exact HI143.out)) hb); have n2_ := Aside0.mk (below_step (by repeat (first | (with_reducible first | exact HB.out | apply below_alloc | apply pw_below_drewN | apply below_drew1 | refine below_set ?_ (IsS66.ge HI142.out) | refine below_set ?_ (IsS55.ge HI143.out)) | exact HB.out)) hb); clear HI142; clear HI143; clear HB; have HI142 := n0_; have HI143 := n1_; have HB := n2_; clear n0_ n1_ n2_; (try clear hb); (try clear hb2); (try clear hk); (try clear hi)) | (go_at_call 30; (with_reducible refine (token_Token_Sure_nil.calls 0 t214 _ A121.out).mono ?_); rintro e w130 ⟨rfl, hb⟩; have n0_ := Aside0.mk (IsS66.below (by repeat (first | (with_reducible first | exact HI142.out | apply IsS66.alloc | apply IsS66.drewN | apply IsS66.drew | apply IsS66.set_0 | apply IsS66.set_1 | apply IsS66.set_2) | exact HI142.out)) hb); have n1_ := Aside0.mk (IsS55.below (by repeat (first | (with_reducible first | exact HI143.out | apply IsS55.alloc | apply IsS55.drewN | apply IsS55.drew | apply IsS55.set_0 | apply IsS55.set_1 | apply IsS55.set_2) | exact HI143.out)) hb); have n2_ := Aside0.mk (below_step (by repeat (first | (with_reducible first | exact HB.out | apply below_alloc | apply pw_below_drewN | apply below_drew1 | refine below_set ?_ (IsS66.ge HI142.out) | refine below_set ?_ (IsS55.ge HI143.out)) | exact HB.out)) hb); clear HI142; clear HI143; clear HB; have HI142 := n0_; have HI143 := n1_; have HB := n2_; clear n0_ n1_ n2_; (try clear hb); (try clear hb2); (try clear hk); (try clear hi)))
    go_ret
    exact ⟨by first | rfl | (simp [errW_none, errW_some] <;> rfl) | (simp [*, errW_none, errW_some] <;> rfl), by repeat (first | (with_reducible first | exact HB.out | apply below_alloc | apply pw_below_drewN | apply below_drew1 | refine below_set ?_ (IsS66.ge HI142.out) | refine below_set ?_ (IsS55.ge HI143.out)) | exact HB.out)⟩
   rw [if_pos c11] at H
   have c11b0 : decide (x25_1 < (l0.length : Int)) = true := decide_eq_true c11
   clear c11
   by_cases c12 : 0 ≤ x25_1
   rotate_left
   ·rw [if_neg c12] at H
    exact absurd H (by simp)
   rw [if_pos c12] at H
   have c12b0 : decide (0 ≤ x25_1) = true := decide_eq_true c12
   clear c12
   by_cases c13 : x25_1 < (l0.length : Int)
   rotate_left
   ·rw [if_neg c13] at H
    exact absurd H (by simp)
   rw [if_pos c13] at H
   have c13b0 : decide (x25_1 < (l0.length : Int)) = true := decide_eq_true c13
   clear c13
   have HC14 := Aside0.mk H
   clear H
   have p144 : 0 ≤ (x25_1 : Int) := of_decide_eq_true (by first | (with_reducible assumption) | assumption)
   have q144 : x25_1 < (l0.length : Int) := of_decide_eq_true (by first | (with_reducible assumption) | assumption)
   obtain ⟨ad144, e144, hx144_0, hx144_1, hx144_2⟩ := at_T49 HR0.out x25_1 p144 q144
   cases e144
   replace hx144_0 := (HB.out.cell (World.block_lt_of_cell? w _ hx144_0)).trans hx144_0
   replace hx144_1 := (HB.out.cell (World.block_lt_of_cell? w _ hx144_1)).trans hx144_1
   replace hx144_2 := (HB.out.cell (World.block_lt_of_cell? w _ hx144_2)).trans hx144_2
   replace p144 := eq_true p144
   replace q144 := eq_true q144
   go_upto_block 2 with (first | ((with_reducible refine gate_dst (N := 8) rfl ?_); refine box_event ?hg (N := 8) ?hd (cs := #[.int .i64 0, .int .i64 0, .bool false]) (t := 49) ?hr ?_; (case hd => rfl); (case hg => rfl); (case hr => first | (go_simp; done) | (go_simp; rfl)); intro gb145 hg w15 hbox hb; have n0_ := Aside0.mk (IsS66.below (by repeat (first | (with_reducible first | exact HI142.out | apply IsS66.alloc | apply IsS66.drewN | apply IsS66.drew | apply IsS66.set_0 | apply IsS66.set_1 | apply IsS66.set_2) | exact HI142.out)) hb); have n1_ := Aside0.mk (IsS55.below (by repeat (first | (with_reducible first | exact HI143.out | apply IsS55.alloc | apply IsS55.drewN | apply IsS55.drew | apply IsS55.set_0 | apply IsS55.set_1 | apply IsS55.set_2) | exact HI143.out)) hb); have n2_ := Aside0.mk (below_step (by repeat (first | (with_reducible first | exact HB.out | apply below_alloc | apply pw_below_drewN | apply below_drew1 | refine below_set ?_ (IsS66.ge HI142.out) | refine below_set ?_ (IsS55.ge HI143.out)) | exact HB.out)) hb); have n3_ := Aside0.mk (hbox); have n4_ := Aside0.mk ((by rw [hg]; exact (below_size (by repeat (first | (with_reducible first | exact HB.out | apply below_alloc | apply pw_below_drewN | apply below_drew1 | refine below_set ?_ (IsS66.ge HI142.out) | refine below_set ?_ (IsS55.ge HI143.out)) | exact HB.out))) : w.heap.size ≤ gb145)); have n5_ := Aside0.mk ((by rw [hg]; exact (below_size (by repeat (first | (with_reducible first | exact HB.out | apply below_alloc | apply pw_below_drewN | apply below_drew1 | refine below_set ?_ (IsS66.ge HI142.out) | refine below_set ?_ (IsS55.ge HI143.out)) | exact HB.out))) : w.heap.size ≤ gb145)); have n6_ := Aside0.mk ((by rw [hg]; exact Nat.ne_of_lt (IsS66.lt (show IsS66 w _ g142 x143000_1 x143001_1 x143002_1 from by repeat (first | (with_reducible first | exact HI142.out | apply IsS66.alloc | apply IsS66.drewN | apply IsS66.drew | apply IsS66.set_0 | apply IsS66.set_1 | apply IsS66.set_2) | exact HI142.out))) : g142 ≠ gb145)); have n7_ := Aside0.mk ((by rw [hg]; exact Nat.ne_of_gt (IsS66.lt (show IsS66 w _ g142 x143000_1 x143001_1 x143002_1 from by repeat (first | (with_reducible first | exact HI142.out | apply IsS66.alloc | apply IsS66.drewN | apply IsS66.drew | apply IsS66.set_0 | apply IsS66.set_1 | apply IsS66.set_2) | exact HI142.out))) : gb145 ≠ g142)); have n8_ := Aside0.mk ((by rw [hg]; exact Nat.ne_of_lt (IsS55.lt (show IsS55 w _ gb143 x144000_1 x144001_1 x144002_1 from by repeat (first | (with_reducible first | exact HI143.out | apply IsS55.alloc | apply IsS55.drewN | apply IsS55.drew | apply IsS55.set_0 | apply IsS55.set_1 | apply IsS55.set_2) | exact HI143.out))) : gb143 ≠ gb145)); have n9_ := Aside0.mk ((by rw [hg]; exact Nat.ne_of_gt (IsS55.lt (show IsS55 w _ gb143 x144000_1 x144001_1 x144002_1 from by repeat (first | (with_reducible first | exact HI143.out | apply IsS55.alloc | apply IsS55.drewN | apply IsS55.drew | apply IsS55.set_0 | apply IsS55.set_1 | apply IsS55.set_2) | exact HI143.out))) : gb145 ≠ gb143)); clear HI142; clear HI143; clear HB; have HI142 := n0_; have HI143 := n1_; have HB := n2_; have BK145 := n3_; have GW145 := n4_; have GE145 := n5_; have NB142_145 := n6_; have NB145_142 := n7_; have NB143_145 := n8_; have NB145_143 := n9_; clear n0_ n1_ n2_ n3_ n4_ n5_ n6_ n7_ n8_ n9_; clear hb hbox hg; have hnb16 := NB145_142.out; have hnc16 := NB142_145.out; have hnb17 := NB145_143.out; have hnc17 := NB143_145.out; have hcz18_0 : w15.cell? ⟨gb145, 0, none⟩ = some (.int .i64 0) := (blk_cell BK145.out 0).trans rfl; have hcz18_1 : w15.cell? ⟨gb145, 1, none⟩ = some (.int .i64 0) := (blk_cell BK145.out 1).trans rfl; have hcz18_2 : w15.cell? ⟨gb145, 2, none⟩ = some (.bool false) := (blk_cell BK145.out 2).trans rfl; have hfz18_0 := blk_frozen BK145.out 0; have hfz18_1 := blk_frozen BK145.out 1; have hfz18_2 := blk_frozen BK145.out 2))
   (try simp only [Act.put, y1_, y2_, y3_])
   go_cut [9] (fun v9 wc => ∃ (kq : Nat) (x9_13 : Bool) (x143000_13 : Int) (x143001_13 : Bool) (x143002_13 : Int) (x144000_13 : Int) (x144001_13 : Bool) (x144002_13 : Int), v9 = .bool x9_13 ∧ Aside0 (countermandlaw19_TokenDoes.j1 kq a1 x9_13 l0 (l0.length : Int) x25_1 x143000_13 x143001_13 x143002_13 x144000_13 x144001_13 x144002_13 ((rd_T49 l0 x25_1).f0) ((rd_T49 l0 x25_1).f1) ((rd_T49 l0 x25_1).f2) = some r) ∧ Aside0 (kq ≤ k1) ∧ Aside0 (wc.heap[gb145]? = some (.cells #[.int .i64 ((rd_T49 l0 x25_1).f0), .int .i64 ((rd_T49 l0 x25_1).f1), .bool ((rd_T49 l0 x25_1).f2)] 49 (0, 0))) ∧ Aside0 (IsS66 w wc g142 x143000_13 x143001_13 x143002_13) ∧ Aside0 (IsS55 w wc gb143 x144000_13 x144001_13 x144002_13) ∧ Aside0 (Below w.heap.size w wc))
   case first =>
    have H := HC14.out
    clear HC14
    by_cases c19 : ((rd_T49 l0 x25_1).f0) = 0
    ·rw [if_pos c19] at H
     have c19b0 : (((rd_T49 l0 x25_1).f0) == 0) = true := beq_iff_eq.mpr c19
     have c19b1 : (((rd_T49 l0 x25_1).f0) != 0) = false := bne_eq_false_iff_eq.mpr c19
     clear c19
     (first | rw [c19b0] | (simp only [i64_w, i32_w]; rw [c19b0]) | skip)
     replace H := Option.bind_eq_some_iff.mp H
     obtain ⟨⟨t146, t147, t148, t149⟩, A200, H⟩ := H
     replace H : ((countermandref19_Token_Take.f x144000_1 x144001_1 x144002_1 ((rd_T49 l0 x25_1).f1) ((rd_T49 l0 x25_1).f2)).bind fun bt150 => (countermandlaw19_TokenDoes.j1 k1 a1 (t146 == bt150.1) l0 (l0.length : Int) x25_1 t147 t148 t149 bt150.2.1 bt150.2.2.1 bt150.2.2.2 ((rd_T49 l0 x25_1).f0) ((rd_T49 l0 x25_1).f1) ((rd_T49 l0 x25_1).f2))) = some r := H
     have A20 := Aside0.mk A200
     clear A200
     replace H := Option.bind_eq_some_iff.mp H
     obtain ⟨⟨t150, t151, t152, t153⟩, A210, H⟩ := H
     replace H : (countermandlaw19_TokenDoes.j1 k1 a1 (t146 == t150) l0 (l0.length : Int) x25_1 t147 t148 t149 t151 t152 t153 ((rd_T49 l0 x25_1).f0) ((rd_T49 l0 x25_1).f1) ((rd_T49 l0 x25_1).f2)) = some r := H
     have A21 := Aside0.mk A210
     clear A210
     have H' := Aside0.mk H
     clear H
     try go_wp2
     have n0_ : Aside0 ((((w15.setCell ⟨gb145, 0, none⟩ (.int .i64 ((rd_T49 l0 x25_1).f0))).setCell ⟨gb145, 1, none⟩ (.int .i64 ((rd_T49 l0 x25_1).f1))).setCell ⟨gb145, 2, none⟩ (.bool ((rd_T49 l0 x25_1).f2))).heap[gb145]? = some (.cells #[.int .i64 ((rd_T49 l0 x25_1).f0), .int .i64 ((rd_T49 l0 x25_1).f1), .bool ((rd_T49 l0 x25_1).f2)] 49 (0, 0))) := ⟨by (with_reducible repeat (first | refine blk_drewN ?_ _ | refine blk_drew ?_ | refine blk_alloc ?_ _)); refine blk_put (cs := #[.int .i64 ((rd_T49 l0 x25_1).f0), .int .i64 ((rd_T49 l0 x25_1).f1), .bool false]) ?_ 2 _ rfl; (with_reducible repeat (first | refine blk_drewN ?_ _ | refine blk_drew ?_ | refine blk_alloc ?_ _)); refine blk_put (cs := #[.int .i64 ((rd_T49 l0 x25_1).f0), .int .i64 0, .bool false]) ?_ 1 _ rfl; (with_reducible repeat (first | refine blk_drewN ?_ _ | refine blk_drew ?_ | refine blk_alloc ?_ _)); refine blk_put (cs := #[.int .i64 0, .int .i64 0, .bool false]) ?_ 0 _ rfl; (with_reducible repeat (first | refine blk_drewN ?_ _ | refine blk_drew ?_ | refine blk_alloc ?_ _)); exact BK145.out⟩
     have n1_ : Aside0 (IsS66 w (((w15.setCell ⟨gb145, 0, none⟩ (.int .i64 ((rd_T49 l0 x25_1).f0))).setCell ⟨gb145, 1, none⟩ (.int .i64 ((rd_T49 l0 x25_1).f1))).setCell ⟨gb145, 2, none⟩ (.bool ((rd_T49 l0 x25_1).f2))) g142 x143000_1 x143001_1 x143002_1) := ⟨by repeat (first | (with_reducible first | exact HI142.out | apply IsS66.alloc | apply IsS66.drewN | apply IsS66.drew | apply IsS66.set_0 | apply IsS66.set_1 | apply IsS66.set_2 | refine IsS66.far ?_ NB142_145.out _) | exact HI142.out)⟩
     have n2_ : Aside0 (IsS55 w (((w15.setCell ⟨gb145, 0, none⟩ (.int .i64 ((rd_T49 l0 x25_1).f0))).setCell ⟨gb145, 1, none⟩ (.int .i64 ((rd_T49 l0 x25_1).f1))).setCell ⟨gb145, 2, none⟩ (.bool ((rd_T49 l0 x25_1).f2))) gb143 x144000_1 x144001_1 x144002_1) := ⟨by repeat (first | (with_reducible first | exact HI143.out | apply IsS55.alloc | apply IsS55.drewN | apply IsS55.drew | apply IsS55.set_0 | apply IsS55.set_1 | apply IsS55.set_2 | refine IsS55.far ?_ NB143_145.out _) | exact HI143.out)⟩
     have n3_ : Aside0 (Below w.heap.size w (((w15.setCell ⟨gb145, 0, none⟩ (.int .i64 ((rd_T49 l0 x25_1).f0))).setCell ⟨gb145, 1, none⟩ (.int .i64 ((rd_T49 l0 x25_1).f1))).setCell ⟨gb145, 2, none⟩ (.bool ((rd_T49 l0 x25_1).f2)))) := ⟨by repeat (first | (with_reducible first | exact HB.out | apply below_alloc | apply pw_below_drewN | apply below_drew1 | refine below_set ?_ (IsS66.ge HI142.out) | refine below_set ?_ (IsS55.ge HI143.out) | refine below_set ?_ GE145.out) | exact HB.out)⟩
     (try clear BK145); (try clear HI142)
     (try clear HI143); (try clear HB)
     generalize (((w15.setCell ⟨gb145, 0, none⟩ (.int .i64 ((rd_T49 l0 x25_1).f0))).setCell ⟨gb145, 1, none⟩ (.int .i64 ((rd_T49 l0 x25_1).f1))).setCell ⟨gb145, 2, none⟩ (.bool ((rd_T49 l0 x25_1).f2))) = w22 at n0_ n1_ n2_ n3_ ⊢
     have BK145 := n0_
     have HI142 := n1_
     have HI143 := n2_
     have HB := n3_
     clear n0_ n1_ n2_ n3_
     have n0_ := Aside0.mk (blk_drew BK145.out)
     have n1_ := Aside0.mk (IsS66.drew HI142.out)
     have n2_ := Aside0.mk (IsS55.drew HI143.out)
     have n3_ := Aside0.mk (below_drew1 HB.out)
     clear BK145 HI142 HI143 HB
     have BK145 := n0_
     have HI142 := n1_
     have HI143 := n2_
     have HB := n3_
     clear n0_ n1_ n2_ n3_
     refine start_ (n := 14) (S := fun w' => w'.cell? ⟨gb145, 0, none⟩ = some (.int .i64 ((rd_T49 l0 x25_1).f0)) ∧ w'.cell? ⟨gb145, 1, none⟩ = some (.int .i64 ((rd_T49 l0 x25_1).f1)) ∧ w'.cell? ⟨gb145, 2, none⟩ = some (.bool ((rd_T49 l0 x25_1).f2))) (ds := []) vb0_ (by kernel_rfl) rfl rfl ⟨(blk_cell BK145.out 0).trans rfl, (blk_cell BK145.out 1).trans rfl, (blk_cell BK145.out 2).trans rfl⟩ (fun hHeld => ?_); refine with_tabW countermandlaw19_TokenDoes.tab12 countermandlaw19_TokenDoes.bits12 (fun HT_ HW_ => ?_)
     generalize w22.drew = w23 at BK145 HI142 HI143 HB hHeld ⊢
     refine pure_ (i := 0) (N := some 33) (v := ?_) (a' := ?_) vb1_ rfl rfl (any_of HT_.out (by kernel_rfl)) (fun _ _ _ h => h) (Or.inl ⟨by rfl, ?_⟩) ?_ ?_
     rotate_left
     ·intro w'
      go_simp
      with_reducible rfl
     rotate_left
     ·simp only [Act.put, y1_, y2_, y3_, i64_w, i32_w]
      rfl
     refine pure_ (i := 1) (N := some 34) (v := ?_) (a' := ?_) vb2_ rfl rfl (any_of HT_.out (by kernel_rfl)) (fun _ _ _ h => h) (Or.inl ⟨by rfl, ?_⟩) ?_ ?_
     rotate_left
     ·intro w'
      go_simp
      with_reducible rfl
     rotate_left
     ·simp only [Act.put, y1_, y2_, y3_, i64_w, i32_w]
      rfl
     refine pure_ (i := 3) (N := some 36) (v := ?_) (a' := ?_) vb3_ rfl rfl (any_of HT_.out (by kernel_rfl)) (fun _ _ _ h => h) (Or.inl ⟨by rfl, ?_⟩) ?_ ?_
     rotate_left
     ·intro w'
      go_simp
      with_reducible rfl
     rotate_left
     ·simp only [Act.put, y1_, y2_, y3_, i64_w, i32_w]
      rfl
     refine pure_ (i := 6) (N := some 39) (v := ?_) (a' := ?_) vb4_ rfl rfl (any_of HT_.out (by kernel_rfl)) (fun _ _ _ h => h) (Or.inl ⟨by rfl, ?_⟩) ?_ ?_
     rotate_left
     ·intro w'
      go_simp
      with_reducible rfl
     rotate_left
     ·simp only [Act.put, y1_, y2_, y3_, i64_w, i32_w]
      rfl
     refine pure_ (i := 7) (N := some 40) (v := ?_) (a' := ?_) vb5_ rfl rfl (any_of HT_.out (by kernel_rfl)) (fun _ _ _ h => h) (Or.inl ⟨by rfl, ?_⟩) ?_ ?_
     rotate_left
     ·intro w'
      go_simp
      with_reducible rfl
     rotate_left
     ·simp only [Act.put, y1_, y2_, y3_, i64_w, i32_w]
      rfl
     refine pure_ (i := 9) (N := some 42) (v := ?_) (a' := ?_) vb6_ rfl rfl (any_of HT_.out (by kernel_rfl)) (fun _ _ _ h => h) (Or.inl ⟨by rfl, ?_⟩) ?_ ?_
     rotate_left
     ·intro w'
      go_simp
      with_reducible rfl
     rotate_left
     ·simp only [Act.put, y1_, y2_, y3_, i64_w, i32_w]
      rfl
     refine take_ (i := 2) (N := some 35) (v := ?_) (a' := ?_) vb7_ rfl rfl (take_ofW HT_.out HW_.out (by kernel_rfl)) (fun _ _ _ h => h) (Or.inl ⟨by rfl, ?_⟩) hHeld ?_ ?_
     rotate_left
     ·rintro w' ⟨s0, s1, s2⟩
      go_simp
      with_reducible rfl
     rotate_left
     ·simp only [Act.put, y1_, y2_, y3_, i64_w, i32_w]
      rfl
     refine take_ (i := 4) (N := some 37) (v := ?_) (a' := ?_) vb8_ rfl rfl (take_ofW HT_.out HW_.out (by kernel_rfl)) (fun _ _ _ h => h) (Or.inl ⟨by rfl, ?_⟩) hHeld ?_ ?_
     rotate_left
     ·rintro w' ⟨s0, s1, s2⟩
      go_simp
      with_reducible rfl
     rotate_left
     ·simp only [Act.put, y1_, y2_, y3_, i64_w, i32_w]
      rfl
     refine take_ (i := 8) (N := some 41) (v := ?_) (a' := ?_) vb9_ rfl rfl (take_ofW HT_.out HW_.out (by kernel_rfl)) (fun _ _ _ h => h) (Or.inl ⟨by rfl, ?_⟩) hHeld ?_ ?_
     rotate_left
     ·rintro w' ⟨s0, s1, s2⟩
      go_simp
      with_reducible rfl
     rotate_left
     ·simp only [Act.put, y1_, y2_, y3_, i64_w, i32_w]
      rfl
     refine take_ (i := 10) (N := some 43) (v := ?_) (a' := ?_) vb10_ rfl rfl (take_ofW HT_.out HW_.out (by kernel_rfl)) (fun _ _ _ h => h) (Or.inl ⟨by rfl, ?_⟩) hHeld ?_ ?_
     rotate_left
     ·rintro w' ⟨s0, s1, s2⟩
      go_simp
      with_reducible rfl
     rotate_left
     ·simp only [Act.put, y1_, y2_, y3_, i64_w, i32_w]
      rfl
     refine one_ (i := 5) (N := some 38) vb11_ rfl rfl (one_of HT_.out (by kernel_rfl)) (by decide) (fun K hK => ?_)
     refine goes_ Try.func26 (by kernel_rfl) rfl #[.pointer (some ⟨g142, 0, none⟩), .int .i64 ((rd_T49 l0 x25_1).f1), .bool ((rd_T49 l0 x25_1).f2)] (by rfl) rfl rfl (by (try simp only [List.map_toArray, List.map_cons, List.map_nil]); first | done | rfl | (simp only [List.length_drop, List.length_take]; rfl)) ?_
     with_reducible refine (token_Token_Take.calls g142 x143000_1 x143001_1 x143002_1 ((rd_T49 l0 x25_1).f1) ((rd_T49 l0 x25_1).f2) t146 t147 t148 t149 w _ ?side1 ?side2 A20.out).mono ?_
     (case side1 => repeat (first | (with_reducible first | exact HI142.out | apply IsS66.alloc | apply IsS66.drewN | apply IsS66.drew | apply IsS66.set_0 | apply IsS66.set_1 | apply IsS66.set_2 | refine IsS66.far ?_ NB142_145.out _) | exact HI142.out))
     (case side2 => repeat (first | (with_reducible first | exact HB.out | apply below_alloc | apply pw_below_drewN | apply below_drew1 | refine below_set ?_ (IsS66.ge HI142.out) | refine below_set ?_ (IsS55.ge HI143.out) | refine below_set ?_ GE145.out) | exact HB.out))
     rintro e w24 ⟨rfl, hi, hb, hk⟩
     refine ⟨_, rfl, ?_⟩
     have n0_ := Aside0.mk ((show IsS55 w w24 gb143 x144000_1 x144001_1 x144002_1 from ⟨KeepBut.blk hk (show IsS55 w _ gb143 x144000_1 x144001_1 x144002_1 from by repeat (first | (with_reducible first | exact HI143.out | apply IsS55.alloc | apply IsS55.drewN | apply IsS55.drew | apply IsS55.set_0 | apply IsS55.set_1 | apply IsS55.set_2 | refine IsS55.far ?_ NB143_145.out _) | exact HI143.out)).1 NB143_142.out (by simp), (show IsS55 w _ gb143 x144000_1 x144001_1 x144002_1 from by repeat (first | (with_reducible first | exact HI143.out | apply IsS55.alloc | apply IsS55.drewN | apply IsS55.drew | apply IsS55.set_0 | apply IsS55.set_1 | apply IsS55.set_2 | refine IsS55.far ?_ NB143_145.out _) | exact HI143.out)).2⟩))
     have n1_ := Aside0.mk (KeepBut.blk hk (g' := gb145) (o := .cells #[.int .i64 ((rd_T49 l0 x25_1).f0), .int .i64 ((rd_T49 l0 x25_1).f1), .bool ((rd_T49 l0 x25_1).f2)] 49 (0, 0)) (by (with_reducible repeat (first | refine blk_drewN ?_ _ | refine blk_drew ?_ | refine blk_alloc ?_ _)); exact BK145.out) NB145_142.out (by simp))
     have n2_ := Aside0.mk (hb)
     have n3_ := Aside0.mk (hi)
     clear HI143 BK145 HB HI142
     have HI143 := n0_
     have BK145 := n1_
     have HB := n2_
     have HI142 := n3_
     clear n0_ n1_ n2_ n3_
     (try clear hb); (try clear hb2)
     (try clear hk); (try clear hi)
     refine hK.out _ _ ⟨(blk_cell BK145.out 0).trans rfl, (blk_cell BK145.out 1).trans rfl, (blk_cell BK145.out 2).trans rfl⟩ (fun hHeld => ?_)
     clear hK K
     refine norm_ (a' := ?_) ?_ ?_
     rotate_left
     ·show Act.put _ (some 38) _ = _
      simp only [Act.put, y1_, y2_, y3_, i64_w, i32_w]
      rfl
     refine one_ (i := 11) (N := some 44) vb12_ rfl rfl (one_of HT_.out (by kernel_rfl)) (by decide) (fun K hK => ?_)
     refine goes_ Try.func35 (by kernel_rfl) rfl #[.pointer (some ⟨gb143, 0, none⟩), .int .i64 ((rd_T49 l0 x25_1).f1), .bool ((rd_T49 l0 x25_1).f2)] (by rfl) rfl rfl (by (try simp only [List.map_toArray, List.map_cons, List.map_nil]); first | done | rfl | (simp only [List.length_drop, List.length_take]; rfl)) ?_
     with_reducible refine (countermandref19_Token_Take.calls gb143 x144000_1 x144001_1 x144002_1 ((rd_T49 l0 x25_1).f1) ((rd_T49 l0 x25_1).f2) t150 t151 t152 t153 w _ ?side1 ?side2 A21.out).mono ?_
     (case side1 => repeat (first | (with_reducible first | exact HI143.out | apply IsS55.alloc | apply IsS55.drewN | apply IsS55.drew | apply IsS55.set_0 | apply IsS55.set_1 | apply IsS55.set_2 | refine IsS55.far ?_ NB143_145.out _) | exact HI143.out))
     (case side2 => repeat (first | (with_reducible first | exact HB.out | apply below_alloc | apply pw_below_drewN | apply below_drew1 | refine below_set ?_ (IsS66.ge HI142.out) | refine below_set ?_ (IsS55.ge HI143.out) | refine below_set ?_ GE145.out) | exact HB.out))
     rintro e w25 ⟨rfl, hi, hb, hk⟩
     refine ⟨_, rfl, ?_⟩
     have n0_ := Aside0.mk ((show IsS66 w w25 g142 t147 t148 t149 from ⟨KeepBut.blk hk (show IsS66 w _ g142 t147 t148 t149 from by repeat (first | (with_reducible first | exact HI142.out | apply IsS66.alloc | apply IsS66.drewN | apply IsS66.drew | apply IsS66.set_0 | apply IsS66.set_1 | apply IsS66.set_2 | refine IsS66.far ?_ NB142_145.out _) | exact HI142.out)).1 NB142_143.out (by simp), (show IsS66 w _ g142 t147 t148 t149 from by repeat (first | (with_reducible first | exact HI142.out | apply IsS66.alloc | apply IsS66.drewN | apply IsS66.drew | apply IsS66.set_0 | apply IsS66.set_1 | apply IsS66.set_2 | refine IsS66.far ?_ NB142_145.out _) | exact HI142.out)).2⟩))
     have n1_ := Aside0.mk (KeepBut.blk hk (g' := gb145) (o := .cells #[.int .i64 ((rd_T49 l0 x25_1).f0), .int .i64 ((rd_T49 l0 x25_1).f1), .bool ((rd_T49 l0 x25_1).f2)] 49 (0, 0)) (by (with_reducible repeat (first | refine blk_drewN ?_ _ | refine blk_drew ?_ | refine blk_alloc ?_ _)); exact BK145.out) NB145_143.out (by simp))
     have n2_ := Aside0.mk (hb)
     have n3_ := Aside0.mk (hi)
     clear HI142 BK145 HB HI143
     have HI142 := n0_
     have BK145 := n1_
     have HB := n2_
     have HI143 := n3_
     clear n0_ n1_ n2_ n3_
     (try clear hb); (try clear hb2)
     (try clear hk); (try clear hi)
     refine hK.out _ _ ⟨(blk_cell BK145.out 0).trans rfl, (blk_cell BK145.out 1).trans rfl, (blk_cell BK145.out 2).trans rfl⟩ (fun hHeld => ?_)
     clear hK K
     refine norm_ (a' := ?_) ?_ ?_
     rotate_left
     ·show Act.put _ (some 44) _ = _
      simp only [Act.put, y1_, y2_, y3_, i64_w, i32_w]
      rfl
     refine pure_ (i := 12) (N := some 45) (v := ?_) (a' := ?_) vb13_ rfl rfl (any_of HT_.out (by kernel_rfl)) (fun _ _ _ h => h) (Or.inl ⟨by rfl, ?_⟩) ?_ ?_
     rotate_left
     ·intro w'
      go_simp
      with_reducible rfl
     rotate_left
     ·simp only [Act.put, y1_, y2_, y3_, i64_w, i32_w]
      rfl
     refine pure_ (i := 13) (N := some 9) (v := ?_) (a' := ?_) vb14_ rfl rfl (any_of HT_.out (by kernel_rfl)) (fun _ _ _ h => h) (Or.inl ⟨by rfl, ?_⟩) ?_ ?_
     rotate_left
     ·intro w'
      go_simp
      with_reducible rfl
     rotate_left
     ·simp only [Act.put, y1_, y2_, y3_, i64_w, i32_w]
      rfl
     refine done_ (done_of HT_.out (by kernel_rfl)) ?_
     try go_wp2
     go_meet
     case rel => exact ⟨_, ((t146 == t150)), (t147), (t148), (t149), (t151), (t152), (t153), (by first | rfl | (simp; done) | (simp [*]; done)), H', ⟨by have := HK1.out; first | omega | exact Nat.le_refl _⟩, ⟨by (with_reducible repeat (first | refine blk_drewN ?_ _ | refine blk_drew ?_ | refine blk_alloc ?_ _)); exact BK145.out⟩, ⟨by repeat (first | (with_reducible first | exact HI142.out | apply IsS66.alloc | apply IsS66.drewN | apply IsS66.drew | apply IsS66.set_0 | apply IsS66.set_1 | apply IsS66.set_2 | refine IsS66.far ?_ NB142_145.out _) | exact HI142.out)⟩, ⟨by repeat (first | (with_reducible first | exact HI143.out | apply IsS55.alloc | apply IsS55.drewN | apply IsS55.drew | apply IsS55.set_0 | apply IsS55.set_1 | apply IsS55.set_2 | refine IsS55.far ?_ NB143_145.out _) | exact HI143.out)⟩, ⟨by repeat (first | (with_reducible first | exact HB.out | apply below_alloc | apply pw_below_drewN | apply below_drew1 | refine below_set ?_ (IsS66.ge HI142.out) | refine below_set ?_ (IsS55.ge HI143.out) | refine below_set ?_ GE145.out) | exact HB.out)⟩⟩
    rw [if_neg c19] at H
    have c19b0 : (((rd_T49 l0 x25_1).f0) == 0) = false := beq_eq_false_iff_ne.mpr c19
    have c19b1 : (((rd_T49 l0 x25_1).f0) != 0) = true := bne_iff_ne.mpr c19
    (first | rw [c19b0] | (simp only [i64_w, i32_w]; rw [c19b0]) | skip)
    by_cases c26 : ((rd_T49 l0 x25_1).f0) = 1
    ·rw [if_pos c26] at H
     have c26b0 : (((rd_T49 l0 x25_1).f0) == 1) = true := beq_iff_eq.mpr c26
     have c26b1 : (((rd_T49 l0 x25_1).f0) != 1) = false := bne_eq_false_iff_eq.mpr c26
     clear c26
     replace H := Option.bind_eq_some_iff.mp H
     obtain ⟨⟨t154, t155, t156, t157⟩, A270, H⟩ := H
     replace H : ((countermandref19_Token_Lock.f x144000_1 x144001_1 x144002_1 ((rd_T49 l0 x25_1).f1)).bind fun bt158 => (countermandlaw19_TokenDoes.j1 k1 a1 (t154 == bt158.1) l0 (l0.length : Int) x25_1 t155 t156 t157 bt158.2.1 bt158.2.2.1 bt158.2.2.2 ((rd_T49 l0 x25_1).f0) ((rd_T49 l0 x25_1).f1) ((rd_T49 l0 x25_1).f2))) = some r := H
     have A27 := Aside0.mk A270
     clear A270
     replace H := Option.bind_eq_some_iff.mp H
     obtain ⟨⟨t158, t159, t160, t161⟩, A280, H⟩ := H
     replace H : (countermandlaw19_TokenDoes.j1 k1 a1 (t154 == t158) l0 (l0.length : Int) x25_1 t155 t156 t157 t159 t160 t161 ((rd_T49 l0 x25_1).f0) ((rd_T49 l0 x25_1).f1) ((rd_T49 l0 x25_1).f2)) = some r := H
     have A28 := Aside0.mk A280
     clear A280
     have H' := Aside0.mk H
     clear H
     try go_wp2
     have n0_ : Aside0 ((((w15.setCell ⟨gb145, 0, none⟩ (.int .i64 ((rd_T49 l0 x25_1).f0))).setCell ⟨gb145, 1, none⟩ (.int .i64 ((rd_T49 l0 x25_1).f1))).setCell ⟨gb145, 2, none⟩ (.bool ((rd_T49 l0 x25_1).f2))).heap[gb145]? = some (.cells #[.int .i64 ((rd_T49 l0 x25_1).f0), .int .i64 ((rd_T49 l0 x25_1).f1), .bool ((rd_T49 l0 x25_1).f2)] 49 (0, 0))) := ⟨by (with_reducible repeat (first | refine blk_drewN ?_ _ | refine blk_drew ?_ | refine blk_alloc ?_ _)); refine blk_put (cs := #[.int .i64 ((rd_T49 l0 x25_1).f0), .int .i64 ((rd_T49 l0 x25_1).f1), .bool false]) ?_ 2 _ rfl; (with_reducible repeat (first | refine blk_drewN ?_ _ | refine blk_drew ?_ | refine blk_alloc ?_ _)); refine blk_put (cs := #[.int .i64 ((rd_T49 l0 x25_1).f0), .int .i64 0, .bool false]) ?_ 1 _ rfl; (with_reducible repeat (first | refine blk_drewN ?_ _ | refine blk_drew ?_ | refine blk_alloc ?_ _)); refine blk_put (cs := #[.int .i64 0, .int .i64 0, .bool false]) ?_ 0 _ rfl; (with_reducible repeat (first | refine blk_drewN ?_ _ | refine blk_drew ?_ | refine blk_alloc ?_ _)); exact BK145.out⟩
     have n1_ : Aside0 (IsS66 w (((w15.setCell ⟨gb145, 0, none⟩ (.int .i64 ((rd_T49 l0 x25_1).f0))).setCell ⟨gb145, 1, none⟩ (.int .i64 ((rd_T49 l0 x25_1).f1))).setCell ⟨gb145, 2, none⟩ (.bool ((rd_T49 l0 x25_1).f2))) g142 x143000_1 x143001_1 x143002_1) := ⟨by repeat (first | (with_reducible first | exact HI142.out | apply IsS66.alloc | apply IsS66.drewN | apply IsS66.drew | apply IsS66.set_0 | apply IsS66.set_1 | apply IsS66.set_2 | refine IsS66.far ?_ NB142_145.out _) | exact HI142.out)⟩
     have n2_ : Aside0 (IsS55 w (((w15.setCell ⟨gb145, 0, none⟩ (.int .i64 ((rd_T49 l0 x25_1).f0))).setCell ⟨gb145, 1, none⟩ (.int .i64 ((rd_T49 l0 x25_1).f1))).setCell ⟨gb145, 2, none⟩ (.bool ((rd_T49 l0 x25_1).f2))) gb143 x144000_1 x144001_1 x144002_1) := ⟨by repeat (first | (with_reducible first | exact HI143.out | apply IsS55.alloc | apply IsS55.drewN | apply IsS55.drew | apply IsS55.set_0 | apply IsS55.set_1 | apply IsS55.set_2 | refine IsS55.far ?_ NB143_145.out _) | exact HI143.out)⟩
     have n3_ : Aside0 (Below w.heap.size w (((w15.setCell ⟨gb145, 0, none⟩ (.int .i64 ((rd_T49 l0 x25_1).f0))).setCell ⟨gb145, 1, none⟩ (.int .i64 ((rd_T49 l0 x25_1).f1))).setCell ⟨gb145, 2, none⟩ (.bool ((rd_T49 l0 x25_1).f2)))) := ⟨by repeat (first | (with_reducible first | exact HB.out | apply below_alloc | apply pw_below_drewN | apply below_drew1 | refine below_set ?_ (IsS66.ge HI142.out) | refine below_set ?_ (IsS55.ge HI143.out) | refine below_set ?_ GE145.out) | exact HB.out)⟩
     (try clear BK145); (try clear HI142)
     (try clear HI143); (try clear HB)
     generalize (((w15.setCell ⟨gb145, 0, none⟩ (.int .i64 ((rd_T49 l0 x25_1).f0))).setCell ⟨gb145, 1, none⟩ (.int .i64 ((rd_T49 l0 x25_1).f1))).setCell ⟨gb145, 2, none⟩ (.bool ((rd_T49 l0 x25_1).f2))) = w29 at n0_ n1_ n2_ n3_ ⊢
     have BK145 := n0_
     have HI142 := n1_
     have HI143 := n2_
     have HB := n3_
     clear n0_ n1_ n2_ n3_
     have n0_ := Aside0.mk (blk_drew BK145.out)
     have n1_ := Aside0.mk (IsS66.drew HI142.out)
     have n2_ := Aside0.mk (IsS55.drew HI143.out)
     have n3_ := Aside0.mk (below_drew1 HB.out)
     clear BK145 HI142 HI143 HB
     have BK145 := n0_
     have HI142 := n1_
     have HI143 := n2_
     have HB := n3_
     clear n0_ n1_ n2_ n3_
     refine start_ (n := 10) (S := fun w' => w'.cell? ⟨gb145, 0, none⟩ = some (.int .i64 ((rd_T49 l0 x25_1).f0)) ∧ w'.cell? ⟨gb145, 1, none⟩ = some (.int .i64 ((rd_T49 l0 x25_1).f1)) ∧ w'.cell? ⟨gb145, 2, none⟩ = some (.bool ((rd_T49 l0 x25_1).f2))) (ds := []) vb15_ (by kernel_rfl) rfl rfl ⟨(blk_cell BK145.out 0).trans rfl, (blk_cell BK145.out 1).trans rfl, (blk_cell BK145.out 2).trans rfl⟩ (fun hHeld => ?_); refine with_tabW countermandlaw19_TokenDoes.tab14 countermandlaw19_TokenDoes.bits14 (fun HT_ HW_ => ?_)
     generalize w29.drew = w30 at BK145 HI142 HI143 HB hHeld ⊢
     refine pure_ (i := 0) (N := some 48) (v := ?_) (a' := ?_) vb16_ rfl rfl (any_of HT_.out (by kernel_rfl)) (fun _ _ _ h => h) (Or.inl ⟨by rfl, ?_⟩) ?_ ?_
     rotate_left
     ·intro w'
      go_simp
      with_reducible rfl
     rotate_left
     ·simp only [Act.put, y1_, y2_, y3_, i64_w, i32_w]
      rfl
     refine pure_ (i := 1) (N := some 49) (v := ?_) (a' := ?_) vb17_ rfl rfl (any_of HT_.out (by kernel_rfl)) (fun _ _ _ h => h) (Or.inl ⟨by rfl, ?_⟩) ?_ ?_
     rotate_left
     ·intro w'
      go_simp
      with_reducible rfl
     rotate_left
     ·simp only [Act.put, y1_, y2_, y3_, i64_w, i32_w]
      rfl
     refine pure_ (i := 4) (N := some 52) (v := ?_) (a' := ?_) vb18_ rfl rfl (any_of HT_.out (by kernel_rfl)) (fun _ _ _ h => h) (Or.inl ⟨by rfl, ?_⟩) ?_ ?_
     rotate_left
     ·intro w'
      go_simp
      with_reducible rfl
     rotate_left
     ·simp only [Act.put, y1_, y2_, y3_, i64_w, i32_w]
      rfl
     refine pure_ (i := 5) (N := some 53) (v := ?_) (a' := ?_) vb19_ rfl rfl (any_of HT_.out (by kernel_rfl)) (fun _ _ _ h => h) (Or.inl ⟨by rfl, ?_⟩) ?_ ?_
     rotate_left
     ·intro w'
      go_simp
      with_reducible rfl
     rotate_left
     ·simp only [Act.put, y1_, y2_, y3_, i64_w, i32_w]
      rfl
     refine take_ (i := 2) (N := some 50) (v := ?_) (a' := ?_) vb20_ rfl rfl (take_ofW HT_.out HW_.out (by kernel_rfl)) (fun _ _ _ h => h) (Or.inl ⟨by rfl, ?_⟩) hHeld ?_ ?_
     rotate_left
     ·rintro w' ⟨s0, s1, s2⟩
      go_simp
      with_reducible rfl
     rotate_left
     ·simp only [Act.put, y1_, y2_, y3_, i64_w, i32_w]
      rfl
     refine take_ (i := 6) (N := some 54) (v := ?_) (a' := ?_) vb21_ rfl rfl (take_ofW HT_.out HW_.out (by kernel_rfl)) (fun _ _ _ h => h) (Or.inl ⟨by rfl, ?_⟩) hHeld ?_ ?_
     rotate_left
     ·rintro w' ⟨s0, s1, s2⟩
      go_simp
      with_reducible rfl
     rotate_left
     ·simp only [Act.put, y1_, y2_, y3_, i64_w, i32_w]
      rfl
     refine one_ (i := 3) (N := some 51) vb22_ rfl rfl (one_of HT_.out (by kernel_rfl)) (by decide) (fun K hK => ?_)
     refine goes_ Try.func27 (by kernel_rfl) rfl #[.pointer (some ⟨g142, 0, none⟩), .int .i64 ((rd_T49 l0 x25_1).f1)] (by rfl) rfl rfl (by (try simp only [List.map_toArray, List.map_cons, List.map_nil]); first | done | rfl | (simp only [List.length_drop, List.length_take]; rfl)) ?_
     with_reducible refine (token_Token_Lock.calls g142 x143000_1 x143001_1 x143002_1 ((rd_T49 l0 x25_1).f1) t154 t155 t156 t157 w _ ?side1 ?side2 A27.out).mono ?_
     (case side1 => repeat (first | (with_reducible first | exact HI142.out | apply IsS66.alloc | apply IsS66.drewN | apply IsS66.drew | apply IsS66.set_0 | apply IsS66.set_1 | apply IsS66.set_2 | refine IsS66.far ?_ NB142_145.out _) | exact HI142.out))
     (case side2 => repeat (first | (with_reducible first | exact HB.out | apply below_alloc | apply pw_below_drewN | apply below_drew1 | refine below_set ?_ (IsS66.ge HI142.out) | refine below_set ?_ (IsS55.ge HI143.out) | refine below_set ?_ GE145.out) | exact HB.out))
     rintro e w31 ⟨rfl, hi, hb, hk⟩
     refine ⟨_, rfl, ?_⟩
     have n0_ := Aside0.mk ((show IsS55 w w31 gb143 x144000_1 x144001_1 x144002_1 from ⟨KeepBut.blk hk (show IsS55 w _ gb143 x144000_1 x144001_1 x144002_1 from by repeat (first | (with_reducible first | exact HI143.out | apply IsS55.alloc | apply IsS55.drewN | apply IsS55.drew | apply IsS55.set_0 | apply IsS55.set_1 | apply IsS55.set_2 | refine IsS55.far ?_ NB143_145.out _) | exact HI143.out)).1 NB143_142.out (by simp), (show IsS55 w _ gb143 x144000_1 x144001_1 x144002_1 from by repeat (first | (with_reducible first | exact HI143.out | apply IsS55.alloc | apply IsS55.drewN | apply IsS55.drew | apply IsS55.set_0 | apply IsS55.set_1 | apply IsS55.set_2 | refine IsS55.far ?_ NB143_145.out _) | exact HI143.out)).2⟩))
     have n1_ := Aside0.mk (KeepBut.blk hk (g' := gb145) (o := .cells #[.int .i64 ((rd_T49 l0 x25_1).f0), .int .i64 ((rd_T49 l0 x25_1).f1), .bool ((rd_T49 l0 x25_1).f2)] 49 (0, 0)) (by (with_reducible repeat (first | refine blk_drewN ?_ _ | refine blk_drew ?_ | refine blk_alloc ?_ _)); exact BK145.out) NB145_142.out (by simp))
     have n2_ := Aside0.mk (hb)
     have n3_ := Aside0.mk (hi)
     clear HI143 BK145 HB HI142
     have HI143 := n0_
     have BK145 := n1_
     have HB := n2_
     have HI142 := n3_
     clear n0_ n1_ n2_ n3_
     (try clear hb); (try clear hb2)
     (try clear hk); (try clear hi)
     refine hK.out _ _ ⟨(blk_cell BK145.out 0).trans rfl, (blk_cell BK145.out 1).trans rfl, (blk_cell BK145.out 2).trans rfl⟩ (fun hHeld => ?_)
     clear hK K
     refine norm_ (a' := ?_) ?_ ?_
     rotate_left
     ·show Act.put _ (some 51) _ = _
      simp only [Act.put, y1_, y2_, y3_, i64_w, i32_w]
      rfl
     refine one_ (i := 7) (N := some 55) vb23_ rfl rfl (one_of HT_.out (by kernel_rfl)) (by decide) (fun K hK => ?_)
     refine goes_ Try.func36 (by kernel_rfl) rfl #[.pointer (some ⟨gb143, 0, none⟩), .int .i64 ((rd_T49 l0 x25_1).f1)] (by rfl) rfl rfl (by (try simp only [List.map_toArray, List.map_cons, List.map_nil]); first | done | rfl | (simp only [List.length_drop, List.length_take]; rfl)) ?_
     with_reducible refine (countermandref19_Token_Lock.calls gb143 x144000_1 x144001_1 x144002_1 ((rd_T49 l0 x25_1).f1) t158 t159 t160 t161 w _ ?side1 ?side2 A28.out).mono ?_
     (case side1 => repeat (first | (with_reducible first | exact HI143.out | apply IsS55.alloc | apply IsS55.drewN | apply IsS55.drew | apply IsS55.set_0 | apply IsS55.set_1 | apply IsS55.set_2 | refine IsS55.far ?_ NB143_145.out _) | exact HI143.out))
     (case side2 => repeat (first | (with_reducible first | exact HB.out | apply below_alloc | apply pw_below_drewN | apply below_drew1 | refine below_set ?_ (IsS66.ge HI142.out) | refine below_set ?_ (IsS55.ge HI143.out) | refine below_set ?_ GE145.out) | exact HB.out))
     rintro e w32 ⟨rfl, hi, hb, hk⟩
     refine ⟨_, rfl, ?_⟩
     have n0_ := Aside0.mk ((show IsS66 w w32 g142 t155 t156 t157 from ⟨KeepBut.blk hk (show IsS66 w _ g142 t155 t156 t157 from by repeat (first | (with_reducible first | exact HI142.out | apply IsS66.alloc | apply IsS66.drewN | apply IsS66.drew | apply IsS66.set_0 | apply IsS66.set_1 | apply IsS66.set_2 | refine IsS66.far ?_ NB142_145.out _) | exact HI142.out)).1 NB142_143.out (by simp), (show IsS66 w _ g142 t155 t156 t157 from by repeat (first | (with_reducible first | exact HI142.out | apply IsS66.alloc | apply IsS66.drewN | apply IsS66.drew | apply IsS66.set_0 | apply IsS66.set_1 | apply IsS66.set_2 | refine IsS66.far ?_ NB142_145.out _) | exact HI142.out)).2⟩))
     have n1_ := Aside0.mk (KeepBut.blk hk (g' := gb145) (o := .cells #[.int .i64 ((rd_T49 l0 x25_1).f0), .int .i64 ((rd_T49 l0 x25_1).f1), .bool ((rd_T49 l0 x25_1).f2)] 49 (0, 0)) (by (with_reducible repeat (first | refine blk_drewN ?_ _ | refine blk_drew ?_ | refine blk_alloc ?_ _)); exact BK145.out) NB145_143.out (by simp))
     have n2_ := Aside0.mk (hb)
     have n3_ := Aside0.mk (hi)
     clear HI142 BK145 HB HI143
     have HI142 := n0_
     have BK145 := n1_
     have HB := n2_
     have HI143 := n3_
     clear n0_ n1_ n2_ n3_
     (try clear hb); (try clear hb2)
     (try clear hk); (try clear hi)
     refine hK.out _ _ ⟨(blk_cell BK145.out 0).trans rfl, (blk_cell BK145.out 1).trans rfl, (blk_cell BK145.out 2).trans rfl⟩ (fun hHeld => ?_)
     clear hK K
     refine norm_ (a' := ?_) ?_ ?_
     rotate_left
     ·show Act.put _ (some 55) _ = _
      simp only [Act.put, y1_, y2_, y3_, i64_w, i32_w]
      rfl
     refine pure_ (i := 8) (N := some 56) (v := ?_) (a' := ?_) vb24_ rfl rfl (any_of HT_.out (by kernel_rfl)) (fun _ _ _ h => h) (Or.inl ⟨by rfl, ?_⟩) ?_ ?_
     rotate_left
     ·intro w'
      go_simp
      with_reducible rfl
     rotate_left
     ·simp only [Act.put, y1_, y2_, y3_, i64_w, i32_w]
      rfl
     refine pure_ (i := 9) (N := some 9) (v := ?_) (a' := ?_) vb25_ rfl rfl (any_of HT_.out (by kernel_rfl)) (fun _ _ _ h => h) (Or.inl ⟨by rfl, ?_⟩) ?_ ?_
     rotate_left
     ·intro w'
      go_simp
      with_reducible rfl
     rotate_left
     ·simp only [Act.put, y1_, y2_, y3_, i64_w, i32_w]
      rfl
     refine done_ (done_of HT_.out (by kernel_rfl)) ?_
     try go_wp2
     go_meet
     case rel => exact ⟨_, ((t154 == t158)), (t155), (t156), (t157), (t159), (t160), (t161), (by first | rfl | (simp; done) | (simp [*]; done)), H', ⟨by have := HK1.out; first | omega | exact Nat.le_refl _⟩, ⟨by (with_reducible repeat (first | refine blk_drewN ?_ _ | refine blk_drew ?_ | refine blk_alloc ?_ _)); exact BK145.out⟩, ⟨by repeat (first | (with_reducible first | exact HI142.out | apply IsS66.alloc | apply IsS66.drewN | apply IsS66.drew | apply IsS66.set_0 | apply IsS66.set_1 | apply IsS66.set_2 | refine IsS66.far ?_ NB142_145.out _) | exact HI142.out)⟩, ⟨by repeat (first | (with_reducible first | exact HI143.out | apply IsS55.alloc | apply IsS55.drewN | apply IsS55.drew | apply IsS55.set_0 | apply IsS55.set_1 | apply IsS55.set_2 | refine IsS55.far ?_ NB143_145.out _) | exact HI143.out)⟩, ⟨by repeat (first | (with_reducible first | exact HB.out | apply below_alloc | apply pw_below_drewN | apply below_drew1 | refine below_set ?_ (IsS66.ge HI142.out) | refine below_set ?_ (IsS55.ge HI143.out) | refine below_set ?_ GE145.out) | exact HB.out)⟩⟩
    rw [if_neg c26] at H
    have c26b0 : (((rd_T49 l0 x25_1).f0) == 1) = false := beq_eq_false_iff_ne.mpr c26
    have c26b1 : (((rd_T49 l0 x25_1).f0) != 1) = true := bne_iff_ne.mpr c26
    by_cases c33 : ((rd_T49 l0 x25_1).f0) = 2
    ·rw [if_pos c33] at H
     have c33b0 : (((rd_T49 l0 x25_1).f0) == 2) = true := beq_iff_eq.mpr c33
     have c33b1 : (((rd_T49 l0 x25_1).f0) != 2) = false := bne_eq_false_iff_eq.mpr c33
     clear c33
     replace H := Option.bind_eq_some_iff.mp H
     obtain ⟨⟨t162, t163, t164, t165⟩, A340, H⟩ := H
     replace H : ((countermandref19_Token_Unlock.f x144000_1 x144001_1 x144002_1 ((rd_T49 l0 x25_1).f1)).bind fun bt166 => (countermandlaw19_TokenDoes.j1 k1 a1 (t162 == bt166.1) l0 (l0.length : Int) x25_1 t163 t164 t165 bt166.2.1 bt166.2.2.1 bt166.2.2.2 ((rd_T49 l0 x25_1).f0) ((rd_T49 l0 x25_1).f1) ((rd_T49 l0 x25_1).f2))) = some r := H
     have A34 := Aside0.mk A340
     clear A340
     replace H := Option.bind_eq_some_iff.mp H
     obtain ⟨⟨t166, t167, t168, t169⟩, A350, H⟩ := H
     replace H : (countermandlaw19_TokenDoes.j1 k1 a1 (t162 == t166) l0 (l0.length : Int) x25_1 t163 t164 t165 t167 t168 t169 ((rd_T49 l0 x25_1).f0) ((rd_T49 l0 x25_1).f1) ((rd_T49 l0 x25_1).f2)) = some r := H
     have A35 := Aside0.mk A350
     clear A350
     have H' := Aside0.mk H
     clear H
     try go_wp2
     have n0_ : Aside0 ((((w15.setCell ⟨gb145, 0, none⟩ (.int .i64 ((rd_T49 l0 x25_1).f0))).setCell ⟨gb145, 1, none⟩ (.int .i64 ((rd_T49 l0 x25_1).f1))).setCell ⟨gb145, 2, none⟩ (.bool ((rd_T49 l0 x25_1).f2))).heap[gb145]? = some (.cells #[.int .i64 ((rd_T49 l0 x25_1).f0), .int .i64 ((rd_T49 l0 x25_1).f1), .bool ((rd_T49 l0 x25_1).f2)] 49 (0, 0))) := ⟨by (with_reducible repeat (first | refine blk_drewN ?_ _ | refine blk_drew ?_ | refine blk_alloc ?_ _)); refine blk_put (cs := #[.int .i64 ((rd_T49 l0 x25_1).f0), .int .i64 ((rd_T49 l0 x25_1).f1), .bool false]) ?_ 2 _ rfl; (with_reducible repeat (first | refine blk_drewN ?_ _ | refine blk_drew ?_ | refine blk_alloc ?_ _)); refine blk_put (cs := #[.int .i64 ((rd_T49 l0 x25_1).f0), .int .i64 0, .bool false]) ?_ 1 _ rfl; (with_reducible repeat (first | refine blk_drewN ?_ _ | refine blk_drew ?_ | refine blk_alloc ?_ _)); refine blk_put (cs := #[.int .i64 0, .int .i64 0, .bool false]) ?_ 0 _ rfl; (with_reducible repeat (first | refine blk_drewN ?_ _ | refine blk_drew ?_ | refine blk_alloc ?_ _)); exact BK145.out⟩
     have n1_ : Aside0 (IsS66 w (((w15.setCell ⟨gb145, 0, none⟩ (.int .i64 ((rd_T49 l0 x25_1).f0))).setCell ⟨gb145, 1, none⟩ (.int .i64 ((rd_T49 l0 x25_1).f1))).setCell ⟨gb145, 2, none⟩ (.bool ((rd_T49 l0 x25_1).f2))) g142 x143000_1 x143001_1 x143002_1) := ⟨by repeat (first | (with_reducible first | exact HI142.out | apply IsS66.alloc | apply IsS66.drewN | apply IsS66.drew | apply IsS66.set_0 | apply IsS66.set_1 | apply IsS66.set_2 | refine IsS66.far ?_ NB142_145.out _) | exact HI142.out)⟩
     have n2_ : Aside0 (IsS55 w (((w15.setCell ⟨gb145, 0, none⟩ (.int .i64 ((rd_T49 l0 x25_1).f0))).setCell ⟨gb145, 1, none⟩ (.int .i64 ((rd_T49 l0 x25_1).f1))).setCell ⟨gb145, 2, none⟩ (.bool ((rd_T49 l0 x25_1).f2))) gb143 x144000_1 x144001_1 x144002_1) := ⟨by repeat (first | (with_reducible first | exact HI143.out | apply IsS55.alloc | apply IsS55.drewN | apply IsS55.drew | apply IsS55.set_0 | apply IsS55.set_1 | apply IsS55.set_2 | refine IsS55.far ?_ NB143_145.out _) | exact HI143.out)⟩
     have n3_ : Aside0 (Below w.heap.size w (((w15.setCell ⟨gb145, 0, none⟩ (.int .i64 ((rd_T49 l0 x25_1).f0))).setCell ⟨gb145, 1, none⟩ (.int .i64 ((rd_T49 l0 x25_1).f1))).setCell ⟨gb145, 2, none⟩ (.bool ((rd_T49 l0 x25_1).f2)))) := ⟨by repeat (first | (with_reducible first | exact HB.out | apply below_alloc | apply pw_below_drewN | apply below_drew1 | refine below_set ?_ (IsS66.ge HI142.out) | refine below_set ?_ (IsS55.ge HI143.out) | refine below_set ?_ GE145.out) | exact HB.out)⟩
     (try clear BK145); (try clear HI142)
     (try clear HI143); (try clear HB)
     generalize (((w15.setCell ⟨gb145, 0, none⟩ (.int .i64 ((rd_T49 l0 x25_1).f0))).setCell ⟨gb145, 1, none⟩ (.int .i64 ((rd_T49 l0 x25_1).f1))).setCell ⟨gb145, 2, none⟩ (.bool ((rd_T49 l0 x25_1).f2))) = w36 at n0_ n1_ n2_ n3_ ⊢
     have BK145 := n0_
     have HI142 := n1_
     have HI143 := n2_
     have HB := n3_
     clear n0_ n1_ n2_ n3_
     have n0_ := Aside0.mk (blk_drew BK145.out)
     have n1_ := Aside0.mk (IsS66.drew HI142.out)
     have n2_ := Aside0.mk (IsS55.drew HI143.out)
     have n3_ := Aside0.mk (below_drew1 HB.out)
     clear BK145 HI142 HI143 HB
     have BK145 := n0_
     have HI142 := n1_
     have HI143 := n2_
     have HB := n3_
     clear n0_ n1_ n2_ n3_
     refine start_ (n := 10) (S := fun w' => w'.cell? ⟨gb145, 0, none⟩ = some (.int .i64 ((rd_T49 l0 x25_1).f0)) ∧ w'.cell? ⟨gb145, 1, none⟩ = some (.int .i64 ((rd_T49 l0 x25_1).f1)) ∧ w'.cell? ⟨gb145, 2, none⟩ = some (.bool ((rd_T49 l0 x25_1).f2))) (ds := []) vb15_ (by kernel_rfl) rfl rfl ⟨(blk_cell BK145.out 0).trans rfl, (blk_cell BK145.out 1).trans rfl, (blk_cell BK145.out 2).trans rfl⟩ (fun hHeld => ?_); refine with_tabW countermandlaw19_TokenDoes.tab16 countermandlaw19_TokenDoes.bits16 (fun HT_ HW_ => ?_)
     generalize w36.drew = w37 at BK145 HI142 HI143 HB hHeld ⊢
     refine pure_ (i := 0) (N := some 59) (v := ?_) (a' := ?_) vb16_ rfl rfl (any_of HT_.out (by kernel_rfl)) (fun _ _ _ h => h) (Or.inl ⟨by rfl, ?_⟩) ?_ ?_
     rotate_left
     ·intro w'
      go_simp
      with_reducible rfl
     rotate_left
     ·simp only [Act.put, y1_, y2_, y3_, i64_w, i32_w]
      rfl
     refine pure_ (i := 1) (N := some 60) (v := ?_) (a' := ?_) vb17_ rfl rfl (any_of HT_.out (by kernel_rfl)) (fun _ _ _ h => h) (Or.inl ⟨by rfl, ?_⟩) ?_ ?_
     rotate_left
     ·intro w'
      go_simp
      with_reducible rfl
     rotate_left
     ·simp only [Act.put, y1_, y2_, y3_, i64_w, i32_w]
      rfl
     refine pure_ (i := 4) (N := some 63) (v := ?_) (a' := ?_) vb18_ rfl rfl (any_of HT_.out (by kernel_rfl)) (fun _ _ _ h => h) (Or.inl ⟨by rfl, ?_⟩) ?_ ?_
     rotate_left
     ·intro w'
      go_simp
      with_reducible rfl
     rotate_left
     ·simp only [Act.put, y1_, y2_, y3_, i64_w, i32_w]
      rfl
     refine pure_ (i := 5) (N := some 64) (v := ?_) (a' := ?_) vb19_ rfl rfl (any_of HT_.out (by kernel_rfl)) (fun _ _ _ h => h) (Or.inl ⟨by rfl, ?_⟩) ?_ ?_
     rotate_left
     ·intro w'
      go_simp
      with_reducible rfl
     rotate_left
     ·simp only [Act.put, y1_, y2_, y3_, i64_w, i32_w]
      rfl
     refine take_ (i := 2) (N := some 61) (v := ?_) (a' := ?_) vb20_ rfl rfl (take_ofW HT_.out HW_.out (by kernel_rfl)) (fun _ _ _ h => h) (Or.inl ⟨by rfl, ?_⟩) hHeld ?_ ?_
     rotate_left
     ·rintro w' ⟨s0, s1, s2⟩
      go_simp
      with_reducible rfl
     rotate_left
     ·simp only [Act.put, y1_, y2_, y3_, i64_w, i32_w]
      rfl
     refine take_ (i := 6) (N := some 65) (v := ?_) (a' := ?_) vb21_ rfl rfl (take_ofW HT_.out HW_.out (by kernel_rfl)) (fun _ _ _ h => h) (Or.inl ⟨by rfl, ?_⟩) hHeld ?_ ?_
     rotate_left
     ·rintro w' ⟨s0, s1, s2⟩
      go_simp
      with_reducible rfl
     rotate_left
     ·simp only [Act.put, y1_, y2_, y3_, i64_w, i32_w]
      rfl
     refine one_ (i := 3) (N := some 62) vb22_ rfl rfl (one_of HT_.out (by kernel_rfl)) (by decide) (fun K hK => ?_)
     refine goes_ Try.func28 (by kernel_rfl) rfl #[.pointer (some ⟨g142, 0, none⟩), .int .i64 ((rd_T49 l0 x25_1).f1)] (by rfl) rfl rfl (by (try simp only [List.map_toArray, List.map_cons, List.map_nil]); first | done | rfl | (simp only [List.length_drop, List.length_take]; rfl)) ?_
     with_reducible refine (token_Token_Unlock.calls g142 x143000_1 x143001_1 x143002_1 ((rd_T49 l0 x25_1).f1) t162 t163 t164 t165 w _ ?side1 ?side2 A34.out).mono ?_
     (case side1 => repeat (first | (with_reducible first | exact HI142.out | apply IsS66.alloc | apply IsS66.drewN | apply IsS66.drew | apply IsS66.set_0 | apply IsS66.set_1 | apply IsS66.set_2 | refine IsS66.far ?_ NB142_145.out _) | exact HI142.out))
     (case side2 => repeat (first | (with_reducible first | exact HB.out | apply below_alloc | apply pw_below_drewN | apply below_drew1 | refine below_set ?_ (IsS66.ge HI142.out) | refine below_set ?_ (IsS55.ge HI143.out) | refine below_set ?_ GE145.out) | exact HB.out))
     rintro e w38 ⟨rfl, hi, hb, hk⟩
     refine ⟨_, rfl, ?_⟩
     have n0_ := Aside0.mk ((show IsS55 w w38 gb143 x144000_1 x144001_1 x144002_1 from ⟨KeepBut.blk hk (show IsS55 w _ gb143 x144000_1 x144001_1 x144002_1 from by repeat (first | (with_reducible first | exact HI143.out | apply IsS55.alloc | apply IsS55.drewN | apply IsS55.drew | apply IsS55.set_0 | apply IsS55.set_1 | apply IsS55.set_2 | refine IsS55.far ?_ NB143_145.out _) | exact HI143.out)).1 NB143_142.out (by simp), (show IsS55 w _ gb143 x144000_1 x144001_1 x144002_1 from by repeat (first | (with_reducible first | exact HI143.out | apply IsS55.alloc | apply IsS55.drewN | apply IsS55.drew | apply IsS55.set_0 | apply IsS55.set_1 | apply IsS55.set_2 | refine IsS55.far ?_ NB143_145.out _) | exact HI143.out)).2⟩))
     have n1_ := Aside0.mk (KeepBut.blk hk (g' := gb145) (o := .cells #[.int .i64 ((rd_T49 l0 x25_1).f0), .int .i64 ((rd_T49 l0 x25_1).f1), .bool ((rd_T49 l0 x25_1).f2)] 49 (0, 0)) (by (with_reducible repeat (first | refine blk_drewN ?_ _ | refine blk_drew ?_ | refine blk_alloc ?_ _)); exact BK145.out) NB145_142.out (by simp))
     have n2_ := Aside0.mk (hb)
     have n3_ := Aside0.mk (hi)
     clear HI143 BK145 HB HI142
     have HI143 := n0_
     have BK145 := n1_
     have HB := n2_
     have HI142 := n3_
     clear n0_ n1_ n2_ n3_
     (try clear hb); (try clear hb2)
     (try clear hk); (try clear hi)
     refine hK.out _ _ ⟨(blk_cell BK145.out 0).trans rfl, (blk_cell BK145.out 1).trans rfl, (blk_cell BK145.out 2).trans rfl⟩ (fun hHeld => ?_)
     clear hK K
     refine norm_ (a' := ?_) ?_ ?_
     rotate_left
     ·show Act.put _ (some 62) _ = _
      simp only [Act.put, y1_, y2_, y3_, i64_w, i32_w]
      rfl
     refine one_ (i := 7) (N := some 66) vb23_ rfl rfl (one_of HT_.out (by kernel_rfl)) (by decide) (fun K hK => ?_)
     refine goes_ Try.func37 (by kernel_rfl) rfl #[.pointer (some ⟨gb143, 0, none⟩), .int .i64 ((rd_T49 l0 x25_1).f1)] (by rfl) rfl rfl (by (try simp only [List.map_toArray, List.map_cons, List.map_nil]); first | done | rfl | (simp only [List.length_drop, List.length_take]; rfl)) ?_
     with_reducible refine (countermandref19_Token_Unlock.calls gb143 x144000_1 x144001_1 x144002_1 ((rd_T49 l0 x25_1).f1) t166 t167 t168 t169 w _ ?side1 ?side2 A35.out).mono ?_
     (case side1 => repeat (first | (with_reducible first | exact HI143.out | apply IsS55.alloc | apply IsS55.drewN | apply IsS55.drew | apply IsS55.set_0 | apply IsS55.set_1 | apply IsS55.set_2 | refine IsS55.far ?_ NB143_145.out _) | exact HI143.out))
     (case side2 => repeat (first | (with_reducible first | exact HB.out | apply below_alloc | apply pw_below_drewN | apply below_drew1 | refine below_set ?_ (IsS66.ge HI142.out) | refine below_set ?_ (IsS55.ge HI143.out) | refine below_set ?_ GE145.out) | exact HB.out))
     rintro e w39 ⟨rfl, hi, hb, hk⟩
     refine ⟨_, rfl, ?_⟩
     have n0_ := Aside0.mk ((show IsS66 w w39 g142 t163 t164 t165 from ⟨KeepBut.blk hk (show IsS66 w _ g142 t163 t164 t165 from by repeat (first | (with_reducible first | exact HI142.out | apply IsS66.alloc | apply IsS66.drewN | apply IsS66.drew | apply IsS66.set_0 | apply IsS66.set_1 | apply IsS66.set_2 | refine IsS66.far ?_ NB142_145.out _) | exact HI142.out)).1 NB142_143.out (by simp), (show IsS66 w _ g142 t163 t164 t165 from by repeat (first | (with_reducible first | exact HI142.out | apply IsS66.alloc | apply IsS66.drewN | apply IsS66.drew | apply IsS66.set_0 | apply IsS66.set_1 | apply IsS66.set_2 | refine IsS66.far ?_ NB142_145.out _) | exact HI142.out)).2⟩))
     have n1_ := Aside0.mk (KeepBut.blk hk (g' := gb145) (o := .cells #[.int .i64 ((rd_T49 l0 x25_1).f0), .int .i64 ((rd_T49 l0 x25_1).f1), .bool ((rd_T49 l0 x25_1).f2)] 49 (0, 0)) (by (with_reducible repeat (first | refine blk_drewN ?_ _ | refine blk_drew ?_ | refine blk_alloc ?_ _)); exact BK145.out) NB145_143.out (by simp))
     have n2_ := Aside0.mk (hb)
     have n3_ := Aside0.mk (hi)
     clear HI142 BK145 HB HI143
     have HI142 := n0_
     have BK145 := n1_
     have HB := n2_
     have HI143 := n3_
     clear n0_ n1_ n2_ n3_
     (try clear hb); (try clear hb2)
     (try clear hk); (try clear hi)
     refine hK.out _ _ ⟨(blk_cell BK145.out 0).trans rfl, (blk_cell BK145.out 1).trans rfl, (blk_cell BK145.out 2).trans rfl⟩ (fun hHeld => ?_)
     clear hK K
     refine norm_ (a' := ?_) ?_ ?_
     rotate_left
     ·show Act.put _ (some 66) _ = _
      simp only [Act.put, y1_, y2_, y3_, i64_w, i32_w]
      rfl
     refine pure_ (i := 8) (N := some 67) (v := ?_) (a' := ?_) vb24_ rfl rfl (any_of HT_.out (by kernel_rfl)) (fun _ _ _ h => h) (Or.inl ⟨by rfl, ?_⟩) ?_ ?_
     rotate_left
     ·intro w'
      go_simp
      with_reducible rfl
     rotate_left
     ·simp only [Act.put, y1_, y2_, y3_, i64_w, i32_w]
      rfl
     refine pure_ (i := 9) (N := some 9) (v := ?_) (a' := ?_) vb25_ rfl rfl (any_of HT_.out (by kernel_rfl)) (fun _ _ _ h => h) (Or.inl ⟨by rfl, ?_⟩) ?_ ?_
     rotate_left
     ·intro w'
      go_simp
      with_reducible rfl
     rotate_left
     ·simp only [Act.put, y1_, y2_, y3_, i64_w, i32_w]
      rfl
     refine done_ (done_of HT_.out (by kernel_rfl)) ?_
     try go_wp2
     go_meet
     case rel => exact ⟨_, ((t162 == t166)), (t163), (t164), (t165), (t167), (t168), (t169), (by first | rfl | (simp; done) | (simp [*]; done)), H', ⟨by have := HK1.out; first | omega | exact Nat.le_refl _⟩, ⟨by (with_reducible repeat (first | refine blk_drewN ?_ _ | refine blk_drew ?_ | refine blk_alloc ?_ _)); exact BK145.out⟩, ⟨by repeat (first | (with_reducible first | exact HI142.out | apply IsS66.alloc | apply IsS66.drewN | apply IsS66.drew | apply IsS66.set_0 | apply IsS66.set_1 | apply IsS66.set_2 | refine IsS66.far ?_ NB142_145.out _) | exact HI142.out)⟩, ⟨by repeat (first | (with_reducible first | exact HI143.out | apply IsS55.alloc | apply IsS55.drewN | apply IsS55.drew | apply IsS55.set_0 | apply IsS55.set_1 | apply IsS55.set_2 | refine IsS55.far ?_ NB143_145.out _) | exact HI143.out)⟩, ⟨by repeat (first | (with_reducible first | exact HB.out | apply below_alloc | apply pw_below_drewN | apply below_drew1 | refine below_set ?_ (IsS66.ge HI142.out) | refine below_set ?_ (IsS55.ge HI143.out) | refine below_set ?_ GE145.out) | exact HB.out)⟩⟩
    rw [if_neg c33] at H
    have c33b0 : (((rd_T49 l0 x25_1).f0) == 2) = false := beq_eq_false_iff_ne.mpr c33
    have c33b1 : (((rd_T49 l0 x25_1).f0) != 2) = true := bne_iff_ne.mpr c33
    by_cases c40 : ((rd_T49 l0 x25_1).f0) = 3
    rotate_left
    ·rw [if_neg c40] at H
     have c40b0 : (((rd_T49 l0 x25_1).f0) == 3) = false := beq_eq_false_iff_ne.mpr c40
     have c40b1 : (((rd_T49 l0 x25_1).f0) != 3) = true := bne_iff_ne.mpr c40
     have H' := Aside0.mk H
     clear H
     go_wp2
     go_meet
     case rel => exact ⟨_, (true), (x143000_1), (x143001_1), (x143002_1), (x144000_1), (x144001_1), (x144002_1), (by first | rfl | (simp; done) | (simp [*]; done)), H', ⟨by have := HK1.out; first | omega | exact Nat.le_refl _⟩, ⟨by (with_reducible repeat (first | refine blk_drewN ?_ _ | refine blk_drew ?_ | refine blk_alloc ?_ _)); refine blk_put (cs := #[.int .i64 ((rd_T49 l0 x25_1).f0), .int .i64 ((rd_T49 l0 x25_1).f1), .bool false]) ?_ 2 _ rfl; (with_reducible repeat (first | refine blk_drewN ?_ _ | refine blk_drew ?_ | refine blk_alloc ?_ _)); refine blk_put (cs := #[.int .i64 ((rd_T49 l0 x25_1).f0), .int .i64 0, .bool false]) ?_ 1 _ rfl; (with_reducible repeat (first | refine blk_drewN ?_ _ | refine blk_drew ?_ | refine blk_alloc ?_ _)); refine blk_put (cs := #[.int .i64 0, .int .i64 0, .bool false]) ?_ 0 _ rfl; (with_reducible repeat (first | refine blk_drewN ?_ _ | refine blk_drew ?_ | refine blk_alloc ?_ _)); exact BK145.out⟩, ⟨by repeat (first | (with_reducible first | exact HI142.out | apply IsS66.alloc | apply IsS66.drewN | apply IsS66.drew | apply IsS66.set_0 | apply IsS66.set_1 | apply IsS66.set_2 | refine IsS66.far ?_ NB142_145.out _) | exact HI142.out)⟩, ⟨by repeat (first | (with_reducible first | exact HI143.out | apply IsS55.alloc | apply IsS55.drewN | apply IsS55.drew | apply IsS55.set_0 | apply IsS55.set_1 | apply IsS55.set_2 | refine IsS55.far ?_ NB143_145.out _) | exact HI143.out)⟩, ⟨by repeat (first | (with_reducible first | exact HB.out | apply below_alloc | apply pw_below_drewN | apply below_drew1 | refine below_set ?_ (IsS66.ge HI142.out) | refine below_set ?_ (IsS55.ge HI143.out) | refine below_set ?_ GE145.out) | exact HB.out)⟩⟩
    rw [if_pos c40] at H
    have c40b0 : (((rd_T49 l0 x25_1).f0) == 3) = true := beq_iff_eq.mpr c40
    have c40b1 : (((rd_T49 l0 x25_1).f0) != 3) = false := bne_eq_false_iff_eq.mpr c40
    clear c40
    replace H := Option.bind_eq_some_iff.mp H
    obtain ⟨⟨t170, t171, t172, t173⟩, A410, H⟩ := H
    replace H : ((countermandref19_Token_Drop.f x144000_1 x144001_1 x144002_1 ((rd_T49 l0 x25_1).f1)).bind fun bt174 => (countermandlaw19_TokenDoes.j1 k1 a1 (t170 == bt174.1) l0 (l0.length : Int) x25_1 t171 t172 t173 bt174.2.1 bt174.2.2.1 bt174.2.2.2 ((rd_T49 l0 x25_1).f0) ((rd_T49 l0 x25_1).f1) ((rd_T49 l0 x25_1).f2))) = some r := H
    have A41 := Aside0.mk A410
    clear A410
    replace H := Option.bind_eq_some_iff.mp H
    obtain ⟨⟨t174, t175, t176, t177⟩, A420, H⟩ := H
    replace H : (countermandlaw19_TokenDoes.j1 k1 a1 (t170 == t174) l0 (l0.length : Int) x25_1 t171 t172 t173 t175 t176 t177 ((rd_T49 l0 x25_1).f0) ((rd_T49 l0 x25_1).f1) ((rd_T49 l0 x25_1).f2)) = some r := H
    have A42 := Aside0.mk A420
    clear A420
    have H' := Aside0.mk H
    clear H
    try go_wp2
    have n0_ : Aside0 ((((w15.setCell ⟨gb145, 0, none⟩ (.int .i64 ((rd_T49 l0 x25_1).f0))).setCell ⟨gb145, 1, none⟩ (.int .i64 ((rd_T49 l0 x25_1).f1))).setCell ⟨gb145, 2, none⟩ (.bool ((rd_T49 l0 x25_1).f2))).heap[gb145]? = some (.cells #[.int .i64 ((rd_T49 l0 x25_1).f0), .int .i64 ((rd_T49 l0 x25_1).f1), .bool ((rd_T49 l0 x25_1).f2)] 49 (0, 0))) := ⟨by (with_reducible repeat (first | refine blk_drewN ?_ _ | refine blk_drew ?_ | refine blk_alloc ?_ _)); refine blk_put (cs := #[.int .i64 ((rd_T49 l0 x25_1).f0), .int .i64 ((rd_T49 l0 x25_1).f1), .bool false]) ?_ 2 _ rfl; (with_reducible repeat (first | refine blk_drewN ?_ _ | refine blk_drew ?_ | refine blk_alloc ?_ _)); refine blk_put (cs := #[.int .i64 ((rd_T49 l0 x25_1).f0), .int .i64 0, .bool false]) ?_ 1 _ rfl; (with_reducible repeat (first | refine blk_drewN ?_ _ | refine blk_drew ?_ | refine blk_alloc ?_ _)); refine blk_put (cs := #[.int .i64 0, .int .i64 0, .bool false]) ?_ 0 _ rfl; (with_reducible repeat (first | refine blk_drewN ?_ _ | refine blk_drew ?_ | refine blk_alloc ?_ _)); exact BK145.out⟩
    have n1_ : Aside0 (IsS66 w (((w15.setCell ⟨gb145, 0, none⟩ (.int .i64 ((rd_T49 l0 x25_1).f0))).setCell ⟨gb145, 1, none⟩ (.int .i64 ((rd_T49 l0 x25_1).f1))).setCell ⟨gb145, 2, none⟩ (.bool ((rd_T49 l0 x25_1).f2))) g142 x143000_1 x143001_1 x143002_1) := ⟨by repeat (first | (with_reducible first | exact HI142.out | apply IsS66.alloc | apply IsS66.drewN | apply IsS66.drew | apply IsS66.set_0 | apply IsS66.set_1 | apply IsS66.set_2 | refine IsS66.far ?_ NB142_145.out _) | exact HI142.out)⟩
    have n2_ : Aside0 (IsS55 w (((w15.setCell ⟨gb145, 0, none⟩ (.int .i64 ((rd_T49 l0 x25_1).f0))).setCell ⟨gb145, 1, none⟩ (.int .i64 ((rd_T49 l0 x25_1).f1))).setCell ⟨gb145, 2, none⟩ (.bool ((rd_T49 l0 x25_1).f2))) gb143 x144000_1 x144001_1 x144002_1) := ⟨by repeat (first | (with_reducible first | exact HI143.out | apply IsS55.alloc | apply IsS55.drewN | apply IsS55.drew | apply IsS55.set_0 | apply IsS55.set_1 | apply IsS55.set_2 | refine IsS55.far ?_ NB143_145.out _) | exact HI143.out)⟩
    have n3_ : Aside0 (Below w.heap.size w (((w15.setCell ⟨gb145, 0, none⟩ (.int .i64 ((rd_T49 l0 x25_1).f0))).setCell ⟨gb145, 1, none⟩ (.int .i64 ((rd_T49 l0 x25_1).f1))).setCell ⟨gb145, 2, none⟩ (.bool ((rd_T49 l0 x25_1).f2)))) := ⟨by repeat (first | (with_reducible first | exact HB.out | apply below_alloc | apply pw_below_drewN | apply below_drew1 | refine below_set ?_ (IsS66.ge HI142.out) | refine below_set ?_ (IsS55.ge HI143.out) | refine below_set ?_ GE145.out) | exact HB.out)⟩
    (try clear BK145); (try clear HI142)
    (try clear HI143); (try clear HB)
    generalize (((w15.setCell ⟨gb145, 0, none⟩ (.int .i64 ((rd_T49 l0 x25_1).f0))).setCell ⟨gb145, 1, none⟩ (.int .i64 ((rd_T49 l0 x25_1).f1))).setCell ⟨gb145, 2, none⟩ (.bool ((rd_T49 l0 x25_1).f2))) = w43 at n0_ n1_ n2_ n3_ ⊢
    have BK145 := n0_
    have HI142 := n1_
    have HI143 := n2_
    have HB := n3_
    clear n0_ n1_ n2_ n3_
    have n0_ := Aside0.mk (blk_drew BK145.out)
    have n1_ := Aside0.mk (IsS66.drew HI142.out)
    have n2_ := Aside0.mk (IsS55.drew HI143.out)
    have n3_ := Aside0.mk (below_drew1 HB.out)
    clear BK145 HI142 HI143 HB
    have BK145 := n0_
    have HI142 := n1_
    have HI143 := n2_
    have HB := n3_
    clear n0_ n1_ n2_ n3_
    refine start_ (n := 10) (S := fun w' => w'.cell? ⟨gb145, 0, none⟩ = some (.int .i64 ((rd_T49 l0 x25_1).f0)) ∧ w'.cell? ⟨gb145, 1, none⟩ = some (.int .i64 ((rd_T49 l0 x25_1).f1)) ∧ w'.cell? ⟨gb145, 2, none⟩ = some (.bool ((rd_T49 l0 x25_1).f2))) (ds := []) vb15_ (by kernel_rfl) rfl rfl ⟨(blk_cell BK145.out 0).trans rfl, (blk_cell BK145.out 1).trans rfl, (blk_cell BK145.out 2).trans rfl⟩ (fun hHeld => ?_); refine with_tabW countermandlaw19_TokenDoes.tab18 countermandlaw19_TokenDoes.bits18 (fun HT_ HW_ => ?_)
    generalize w43.drew = w44 at BK145 HI142 HI143 HB hHeld ⊢
    refine pure_ (i := 0) (N := some 70) (v := ?_) (a' := ?_) vb16_ rfl rfl (any_of HT_.out (by kernel_rfl)) (fun _ _ _ h => h) (Or.inl ⟨by rfl, ?_⟩) ?_ ?_
    rotate_left
    ·intro w'
     go_simp
     with_reducible rfl
    rotate_left
    ·simp only [Act.put, y1_, y2_, y3_, i64_w, i32_w]
     rfl
    refine pure_ (i := 1) (N := some 71) (v := ?_) (a' := ?_) vb17_ rfl rfl (any_of HT_.out (by kernel_rfl)) (fun _ _ _ h => h) (Or.inl ⟨by rfl, ?_⟩) ?_ ?_
    rotate_left
    ·intro w'
     go_simp
     with_reducible rfl
    rotate_left
    ·simp only [Act.put, y1_, y2_, y3_, i64_w, i32_w]
     rfl
    refine pure_ (i := 4) (N := some 74) (v := ?_) (a' := ?_) vb18_ rfl rfl (any_of HT_.out (by kernel_rfl)) (fun _ _ _ h => h) (Or.inl ⟨by rfl, ?_⟩) ?_ ?_
    rotate_left
    ·intro w'
     go_simp
     with_reducible rfl
    rotate_left
    ·simp only [Act.put, y1_, y2_, y3_, i64_w, i32_w]
     rfl
    refine pure_ (i := 5) (N := some 75) (v := ?_) (a' := ?_) vb19_ rfl rfl (any_of HT_.out (by kernel_rfl)) (fun _ _ _ h => h) (Or.inl ⟨by rfl, ?_⟩) ?_ ?_
    rotate_left
    ·intro w'
     go_simp
     with_reducible rfl
    rotate_left
    ·simp only [Act.put, y1_, y2_, y3_, i64_w, i32_w]
     rfl
    refine take_ (i := 2) (N := some 72) (v := ?_) (a' := ?_) vb20_ rfl rfl (take_ofW HT_.out HW_.out (by kernel_rfl)) (fun _ _ _ h => h) (Or.inl ⟨by rfl, ?_⟩) hHeld ?_ ?_
    rotate_left
    ·rintro w' ⟨s0, s1, s2⟩
     go_simp
     with_reducible rfl
    rotate_left
    ·simp only [Act.put, y1_, y2_, y3_, i64_w, i32_w]
     rfl
    refine take_ (i := 6) (N := some 76) (v := ?_) (a' := ?_) vb21_ rfl rfl (take_ofW HT_.out HW_.out (by kernel_rfl)) (fun _ _ _ h => h) (Or.inl ⟨by rfl, ?_⟩) hHeld ?_ ?_
    rotate_left
    ·rintro w' ⟨s0, s1, s2⟩
     go_simp
     with_reducible rfl
    rotate_left
    ·simp only [Act.put, y1_, y2_, y3_, i64_w, i32_w]
     rfl
    refine one_ (i := 3) (N := some 73) vb22_ rfl rfl (one_of HT_.out (by kernel_rfl)) (by decide) (fun K hK => ?_)
    refine goes_ Try.func29 (by kernel_rfl) rfl #[.pointer (some ⟨g142, 0, none⟩), .int .i64 ((rd_T49 l0 x25_1).f1)] (by rfl) rfl rfl (by (try simp only [List.map_toArray, List.map_cons, List.map_nil]); first | done | rfl | (simp only [List.length_drop, List.length_take]; rfl)) ?_
    with_reducible refine (token_Token_Drop.calls g142 x143000_1 x143001_1 x143002_1 ((rd_T49 l0 x25_1).f1) t170 t171 t172 t173 w _ ?side1 ?side2 A41.out).mono ?_
    (case side1 => repeat (first | (with_reducible first | exact HI142.out | apply IsS66.alloc | apply IsS66.drewN | apply IsS66.drew | apply IsS66.set_0 | apply IsS66.set_1 | apply IsS66.set_2 | refine IsS66.far ?_ NB142_145.out _) | exact HI142.out))
    (case side2 => repeat (first | (with_reducible first | exact HB.out | apply below_alloc | apply pw_below_drewN | apply below_drew1 | refine below_set ?_ (IsS66.ge HI142.out) | refine below_set ?_ (IsS55.ge HI143.out) | refine below_set ?_ GE145.out) | exact HB.out))
    rintro e w45 ⟨rfl, hi, hb, hk⟩
    refine ⟨_, rfl, ?_⟩
    have n0_ := Aside0.mk ((show IsS55 w w45 gb143 x144000_1 x144001_1 x144002_1 from ⟨KeepBut.blk hk (show IsS55 w _ gb143 x144000_1 x144001_1 x144002_1 from by repeat (first | (with_reducible first | exact HI143.out | apply IsS55.alloc | apply IsS55.drewN | apply IsS55.drew | apply IsS55.set_0 | apply IsS55.set_1 | apply IsS55.set_2 | refine IsS55.far ?_ NB143_145.out _) | exact HI143.out)).1 NB143_142.out (by simp), (show IsS55 w _ gb143 x144000_1 x144001_1 x144002_1 from by repeat (first | (with_reducible first | exact HI143.out | apply IsS55.alloc | apply IsS55.drewN | apply IsS55.drew | apply IsS55.set_0 | apply IsS55.set_1 | apply IsS55.set_2 | refine IsS55.far ?_ NB143_145.out _) | exact HI143.out)).2⟩))
    have n1_ := Aside0.mk (KeepBut.blk hk (g' := gb145) (o := .cells #[.int .i64 ((rd_T49 l0 x25_1).f0), .int .i64 ((rd_T49 l0 x25_1).f1), .bool ((rd_T49 l0 x25_1).f2)] 49 (0, 0)) (by (with_reducible repeat (first | refine blk_drewN ?_ _ | refine blk_drew ?_ | refine blk_alloc ?_ _)); exact BK145.out) NB145_142.out (by simp))
    have n2_ := Aside0.mk (hb)
    have n3_ := Aside0.mk (hi)
    clear HI143 BK145 HB HI142
    have HI143 := n0_
    have BK145 := n1_
    have HB := n2_
    have HI142 := n3_
    clear n0_ n1_ n2_ n3_
    (try clear hb); (try clear hb2)
    (try clear hk); (try clear hi)
    refine hK.out _ _ ⟨(blk_cell BK145.out 0).trans rfl, (blk_cell BK145.out 1).trans rfl, (blk_cell BK145.out 2).trans rfl⟩ (fun hHeld => ?_)
    clear hK K
    refine norm_ (a' := ?_) ?_ ?_
    rotate_left
    ·show Act.put _ (some 73) _ = _
     simp only [Act.put, y1_, y2_, y3_, i64_w, i32_w]
     rfl
    refine one_ (i := 7) (N := some 77) vb23_ rfl rfl (one_of HT_.out (by kernel_rfl)) (by decide) (fun K hK => ?_)
    refine goes_ Try.func38 (by kernel_rfl) rfl #[.pointer (some ⟨gb143, 0, none⟩), .int .i64 ((rd_T49 l0 x25_1).f1)] (by rfl) rfl rfl (by (try simp only [List.map_toArray, List.map_cons, List.map_nil]); first | done | rfl | (simp only [List.length_drop, List.length_take]; rfl)) ?_
    with_reducible refine (countermandref19_Token_Drop.calls gb143 x144000_1 x144001_1 x144002_1 ((rd_T49 l0 x25_1).f1) t174 t175 t176 t177 w _ ?side1 ?side2 A42.out).mono ?_
    (case side1 => repeat (first | (with_reducible first | exact HI143.out | apply IsS55.alloc | apply IsS55.drewN | apply IsS55.drew | apply IsS55.set_0 | apply IsS55.set_1 | apply IsS55.set_2 | refine IsS55.far ?_ NB143_145.out _) | exact HI143.out))
    (case side2 => repeat (first | (with_reducible first | exact HB.out | apply below_alloc | apply pw_below_drewN | apply below_drew1 | refine below_set ?_ (IsS66.ge HI142.out) | refine below_set ?_ (IsS55.ge HI143.out) | refine below_set ?_ GE145.out) | exact HB.out))
    rintro e w46 ⟨rfl, hi, hb, hk⟩
    refine ⟨_, rfl, ?_⟩
    have n0_ := Aside0.mk ((show IsS66 w w46 g142 t171 t172 t173 from ⟨KeepBut.blk hk (show IsS66 w _ g142 t171 t172 t173 from by repeat (first | (with_reducible first | exact HI142.out | apply IsS66.alloc | apply IsS66.drewN | apply IsS66.drew | apply IsS66.set_0 | apply IsS66.set_1 | apply IsS66.set_2 | refine IsS66.far ?_ NB142_145.out _) | exact HI142.out)).1 NB142_143.out (by simp), (show IsS66 w _ g142 t171 t172 t173 from by repeat (first | (with_reducible first | exact HI142.out | apply IsS66.alloc | apply IsS66.drewN | apply IsS66.drew | apply IsS66.set_0 | apply IsS66.set_1 | apply IsS66.set_2 | refine IsS66.far ?_ NB142_145.out _) | exact HI142.out)).2⟩))
    have n1_ := Aside0.mk (KeepBut.blk hk (g' := gb145) (o := .cells #[.int .i64 ((rd_T49 l0 x25_1).f0), .int .i64 ((rd_T49 l0 x25_1).f1), .bool ((rd_T49 l0 x25_1).f2)] 49 (0, 0)) (by (with_reducible repeat (first | refine blk_drewN ?_ _ | refine blk_drew ?_ | refine blk_alloc ?_ _)); exact BK145.out) NB145_143.out (by simp))
    have n2_ := Aside0.mk (hb)
    have n3_ := Aside0.mk (hi)
    clear HI142 BK145 HB HI143
    have HI142 := n0_
    have BK145 := n1_
    have HB := n2_
    have HI143 := n3_
    clear n0_ n1_ n2_ n3_
    (try clear hb); (try clear hb2)
    (try clear hk); (try clear hi)
    refine hK.out _ _ ⟨(blk_cell BK145.out 0).trans rfl, (blk_cell BK145.out 1).trans rfl, (blk_cell BK145.out 2).trans rfl⟩ (fun hHeld => ?_)
    clear hK K
    refine norm_ (a' := ?_) ?_ ?_
    rotate_left
    ·show Act.put _ (some 77) _ = _
     simp only [Act.put, y1_, y2_, y3_, i64_w, i32_w]
     rfl
    refine pure_ (i := 8) (N := some 78) (v := ?_) (a' := ?_) vb24_ rfl rfl (any_of HT_.out (by kernel_rfl)) (fun _ _ _ h => h) (Or.inl ⟨by rfl, ?_⟩) ?_ ?_
    rotate_left
    ·intro w'
     go_simp
     with_reducible rfl
    rotate_left
    ·simp only [Act.put, y1_, y2_, y3_, i64_w, i32_w]
     rfl
    refine pure_ (i := 9) (N := some 9) (v := ?_) (a' := ?_) vb25_ rfl rfl (any_of HT_.out (by kernel_rfl)) (fun _ _ _ h => h) (Or.inl ⟨by rfl, ?_⟩) ?_ ?_
    rotate_left
    ·intro w'
     go_simp
     with_reducible rfl
    rotate_left
    ·simp only [Act.put, y1_, y2_, y3_, i64_w, i32_w]
     rfl
    refine done_ (done_of HT_.out (by kernel_rfl)) ?_
    try go_wp2
    go_meet
    case rel => exact ⟨_, ((t170 == t174)), (t171), (t172), (t173), (t175), (t176), (t177), (by first | rfl | (simp; done) | (simp [*]; done)), H', ⟨by have := HK1.out; first | omega | exact Nat.le_refl _⟩, ⟨by (with_reducible repeat (first | refine blk_drewN ?_ _ | refine blk_drew ?_ | refine blk_alloc ?_ _)); exact BK145.out⟩, ⟨by repeat (first | (with_reducible first | exact HI142.out | apply IsS66.alloc | apply IsS66.drewN | apply IsS66.drew | apply IsS66.set_0 | apply IsS66.set_1 | apply IsS66.set_2 | refine IsS66.far ?_ NB142_145.out _) | exact HI142.out)⟩, ⟨by repeat (first | (with_reducible first | exact HI143.out | apply IsS55.alloc | apply IsS55.drewN | apply IsS55.drew | apply IsS55.set_0 | apply IsS55.set_1 | apply IsS55.set_2 | refine IsS55.far ?_ NB143_145.out _) | exact HI143.out)⟩, ⟨by repeat (first | (with_reducible first | exact HB.out | apply below_alloc | apply pw_below_drewN | apply below_drew1 | refine below_set ?_ (IsS66.ge HI142.out) | refine below_set ?_ (IsS55.ge HI143.out) | refine below_set ?_ GE145.out) | exact HB.out)⟩⟩
   case rest =>
    clear HC14
    try clear c1
    try clear c2
    try clear p2
    try clear c3
    try clear c4
    try clear c19
    try clear c19b0
    try clear c19b1
    try clear c26
    try clear c26b0
    try clear c26b1
    try clear c27
    try clear c28
    try clear c29
    try clear c33
    try clear c33b0
    try clear c33b1
    try clear c36
    try clear c37
    try clear c38
    try clear c40
    try clear c40b0
    try clear c40b1
    obtain ⟨kq, x9_13, x143000_13, x143001_13, x143002_13, x144000_13, x144001_13, x144002_13, rfl, HA, HJ13, BK145, HI142, HI143, HB⟩ := hcut
    cases kq with
    | zero => exact absurd HA.out (by simp [countermandlaw19_TokenDoes.j1])
    | succ kj13 =>
     have H := HA.out
     clear HA
     simp only [countermandlaw19_TokenDoes.j1] at H
     replace H := Option.bind_eq_some_iff.mp H
     obtain ⟨⟨t178, t179, t180, t181⟩, A470, H⟩ := H
     replace H : ((token_Token_Commits.f t179 t180 t181).bind fun bt182 => (if x9_13 = true then (if t178 = x144000_13 then (if bt182.1 = x144002_13 then ((token_Token_Soft.f bt182.2.1 bt182.2.2.1 bt182.2.2.2).bind fun bt186 => (if x144000_13 ≥ 0 then (if bt186.1 = (!x144001_13) then (if t178 ≥ 0 then (if bt182.1 ≥ 0 then (countermandlaw19_TokenDoes.j2 kj13 a1 l0 (l0.length : Int) x25_1 (t178 != bt182.1) bt186.2.1 bt186.2.2.1 bt186.2.2.2 x144000_13 x144001_13 x144002_13 ((rd_T49 l0 x25_1).f0) ((rd_T49 l0 x25_1).f1) ((rd_T49 l0 x25_1).f2)) else (countermandlaw19_TokenDoes.j2 kj13 a1 l0 (l0.length : Int) x25_1 false bt186.2.1 bt186.2.2.1 bt186.2.2.2 x144000_13 x144001_13 x144002_13 ((rd_T49 l0 x25_1).f0) ((rd_T49 l0 x25_1).f1) ((rd_T49 l0 x25_1).f2))) else (countermandlaw19_TokenDoes.j2 kj13 a1 l0 (l0.length : Int) x25_1 false bt186.2.1 bt186.2.2.1 bt186.2.2.2 x144000_13 x144001_13 x144002_13 ((rd_T49 l0 x25_1).f0) ((rd_T49 l0 x25_1).f1) ((rd_T49 l0 x25_1).f2))) else (countermandlaw19_TokenDoes.j2 kj13 a1 l0 (l0.length : Int) x25_1 true bt186.2.1 bt186.2.2.1 bt186.2.2.2 x144000_13 x144001_13 x144002_13 ((rd_T49 l0 x25_1).f0) ((rd_T49 l0 x25_1).f1) ((rd_T49 l0 x25_1).f2))) else (if bt186.1 = true then (countermandlaw19_TokenDoes.j2 kj13 a1 l0 (l0.length : Int) x25_1 true bt186.2.1 bt186.2.2.1 bt186.2.2.2 x144000_13 x144001_13 x144002_13 ((rd_T49 l0 x25_1).f0) ((rd_T49 l0 x25_1).f1) ((rd_T49 l0 x25_1).f2)) else (if t178 ≥ 0 then (if bt182.1 ≥ 0 then (countermandlaw19_TokenDoes.j2 kj13 a1 l0 (l0.length : Int) x25_1 (t178 != bt182.1) bt186.2.1 bt186.2.2.1 bt186.2.2.2 x144000_13 x144001_13 x144002_13 ((rd_T49 l0 x25_1).f0) ((rd_T49 l0 x25_1).f1) ((rd_T49 l0 x25_1).f2)) else (countermandlaw19_TokenDoes.j2 kj13 a1 l0 (l0.length : Int) x25_1 false bt186.2.1 bt186.2.2.1 bt186.2.2.2 x144000_13 x144001_13 x144002_13 ((rd_T49 l0 x25_1).f0) ((rd_T49 l0 x25_1).f1) ((rd_T49 l0 x25_1).f2))) else (countermandlaw19_TokenDoes.j2 kj13 a1 l0 (l0.length : Int) x25_1 false bt186.2.1 bt186.2.2.1 bt186.2.2.2 x144000_13 x144001_13 x144002_13 ((rd_T49 l0 x25_1).f0) ((rd_T49 l0 x25_1).f1) ((rd_T49 l0 x25_1).f2)))))) else (countermandlaw19_TokenDoes.j2 kj13 a1 l0 (l0.length : Int) x25_1 true bt182.2.1 bt182.2.2.1 bt182.2.2.2 x144000_13 x144001_13 x144002_13 ((rd_T49 l0 x25_1).f0) ((rd_T49 l0 x25_1).f1) ((rd_T49 l0 x25_1).f2))) else (countermandlaw19_TokenDoes.j2 kj13 a1 l0 (l0.length : Int) x25_1 true bt182.2.1 bt182.2.2.1 bt182.2.2.2 x144000_13 x144001_13 x144002_13 ((rd_T49 l0 x25_1).f0) ((rd_T49 l0 x25_1).f1) ((rd_T49 l0 x25_1).f2))) else (countermandlaw19_TokenDoes.j2 kj13 a1 l0 (l0.length : Int) x25_1 true bt182.2.1 bt182.2.2.1 bt182.2.2.2 x144000_13 x144001_13 x144002_13 ((rd_T49 l0 x25_1).f0) ((rd_T49 l0 x25_1).f1) ((rd_T49 l0 x25_1).f2)))) = some r := H
     have A47 := Aside0.mk A470
     clear A470
     replace H := Option.bind_eq_some_iff.mp H
     obtain ⟨⟨t182, t183, t184, t185⟩, A480, H⟩ := H
     replace H : (if x9_13 = true then (if t178 = x144000_13 then (if t182 = x144002_13 then ((token_Token_Soft.f t183 t184 t185).bind fun bt186 => (if x144000_13 ≥ 0 then (if bt186.1 = (!x144001_13) then (if t178 ≥ 0 then (if t182 ≥ 0 then (countermandlaw19_TokenDoes.j2 kj13 a1 l0 (l0.length : Int) x25_1 (t178 != t182) bt186.2.1 bt186.2.2.1 bt186.2.2.2 x144000_13 x144001_13 x144002_13 ((rd_T49 l0 x25_1).f0) ((rd_T49 l0 x25_1).f1) ((rd_T49 l0 x25_1).f2)) else (countermandlaw19_TokenDoes.j2 kj13 a1 l0 (l0.length : Int) x25_1 false bt186.2.1 bt186.2.2.1 bt186.2.2.2 x144000_13 x144001_13 x144002_13 ((rd_T49 l0 x25_1).f0) ((rd_T49 l0 x25_1).f1) ((rd_T49 l0 x25_1).f2))) else (countermandlaw19_TokenDoes.j2 kj13 a1 l0 (l0.length : Int) x25_1 false bt186.2.1 bt186.2.2.1 bt186.2.2.2 x144000_13 x144001_13 x144002_13 ((rd_T49 l0 x25_1).f0) ((rd_T49 l0 x25_1).f1) ((rd_T49 l0 x25_1).f2))) else (countermandlaw19_TokenDoes.j2 kj13 a1 l0 (l0.length : Int) x25_1 true bt186.2.1 bt186.2.2.1 bt186.2.2.2 x144000_13 x144001_13 x144002_13 ((rd_T49 l0 x25_1).f0) ((rd_T49 l0 x25_1).f1) ((rd_T49 l0 x25_1).f2))) else (if bt186.1 = true then (countermandlaw19_TokenDoes.j2 kj13 a1 l0 (l0.length : Int) x25_1 true bt186.2.1 bt186.2.2.1 bt186.2.2.2 x144000_13 x144001_13 x144002_13 ((rd_T49 l0 x25_1).f0) ((rd_T49 l0 x25_1).f1) ((rd_T49 l0 x25_1).f2)) else (if t178 ≥ 0 then (if t182 ≥ 0 then (countermandlaw19_TokenDoes.j2 kj13 a1 l0 (l0.length : Int) x25_1 (t178 != t182) bt186.2.1 bt186.2.2.1 bt186.2.2.2 x144000_13 x144001_13 x144002_13 ((rd_T49 l0 x25_1).f0) ((rd_T49 l0 x25_1).f1) ((rd_T49 l0 x25_1).f2)) else (countermandlaw19_TokenDoes.j2 kj13 a1 l0 (l0.length : Int) x25_1 false bt186.2.1 bt186.2.2.1 bt186.2.2.2 x144000_13 x144001_13 x144002_13 ((rd_T49 l0 x25_1).f0) ((rd_T49 l0 x25_1).f1) ((rd_T49 l0 x25_1).f2))) else (countermandlaw19_TokenDoes.j2 kj13 a1 l0 (l0.length : Int) x25_1 false bt186.2.1 bt186.2.2.1 bt186.2.2.2 x144000_13 x144001_13 x144002_13 ((rd_T49 l0 x25_1).f0) ((rd_T49 l0 x25_1).f1) ((rd_T49 l0 x25_1).f2)))))) else (countermandlaw19_TokenDoes.j2 kj13 a1 l0 (l0.length : Int) x25_1 true t183 t184 t185 x144000_13 x144001_13 x144002_13 ((rd_T49 l0 x25_1).f0) ((rd_T49 l0 x25_1).f1) ((rd_T49 l0 x25_1).f2))) else (countermandlaw19_TokenDoes.j2 kj13 a1 l0 (l0.length : Int) x25_1 true t183 t184 t185 x144000_13 x144001_13 x144002_13 ((rd_T49 l0 x25_1).f0) ((rd_T49 l0 x25_1).f1) ((rd_T49 l0 x25_1).f2))) else (countermandlaw19_TokenDoes.j2 kj13 a1 l0 (l0.length : Int) x25_1 true t183 t184 t185 x144000_13 x144001_13 x144002_13 ((rd_T49 l0 x25_1).f0) ((rd_T49 l0 x25_1).f1) ((rd_T49 l0 x25_1).f2))) = some r := H
     have A48 := Aside0.mk A480
     clear A480
     have HC49 := Aside0.mk H
     clear H
     go_upto_region 20 with (first | ((with_reducible refine gate_callee (f := 32) rfl ?_); refine goesL_ (some 80) rfl rfl Try.func32 (by kernel_rfl) rfl #[.pointer (some ⟨g142, 0, none⟩)] rfl (by (try simp only [List.map_toArray, List.map_cons, List.map_nil]); first | done | rfl | (simp only [List.length_drop, List.length_take]; rfl)) ?_; (with_reducible refine (token_Token_Holder.calls g142 x143000_13 x143001_13 x143002_13 t178 t179 t180 t181 w _ ?side1 ?side2 A47.out).mono ?_); (case side1 => repeat (first | (with_reducible first | exact HI142.out | apply IsS66.alloc | apply IsS66.drewN | apply IsS66.drew | apply IsS66.set_0 | apply IsS66.set_1 | apply IsS66.set_2 | refine IsS66.far ?_ NB142_145.out _) | exact HI142.out)); (case side2 => repeat (first | (with_reducible first | exact HB.out | apply below_alloc | apply pw_below_drewN | apply below_drew1 | refine below_set ?_ (IsS66.ge HI142.out) | refine below_set ?_ (IsS55.ge HI143.out) | refine below_set ?_ GE145.out) | exact HB.out)); rintro e w50 ⟨rfl, hi, hb, hk⟩; refine ⟨_, rfl, ?_⟩; have n0_ := Aside0.mk (KeepBut.blk hk (g' := gb145) (o := .cells #[.int .i64 ((rd_T49 l0 x25_1).f0), .int .i64 ((rd_T49 l0 x25_1).f1), .bool ((rd_T49 l0 x25_1).f2)] 49 (0, 0)) (by (with_reducible repeat (first | refine blk_drewN ?_ _ | refine blk_drew ?_ | refine blk_alloc ?_ _)); exact BK145.out) NB145_142.out (by simp)); have n1_ := Aside0.mk ((show IsS55 w w50 gb143 x144000_13 x144001_13 x144002_13 from ⟨KeepBut.blk hk (show IsS55 w _ gb143 x144000_13 x144001_13 x144002_13 from by repeat (first | (with_reducible first | exact HI143.out | apply IsS55.alloc | apply IsS55.drewN | apply IsS55.drew | apply IsS55.set_0 | apply IsS55.set_1 | apply IsS55.set_2 | refine IsS55.far ?_ NB143_145.out _) | exact HI143.out)).1 NB143_142.out (by simp), (show IsS55 w _ gb143 x144000_13 x144001_13 x144002_13 from by repeat (first | (with_reducible first | exact HI143.out | apply IsS55.alloc | apply IsS55.drewN | apply IsS55.drew | apply IsS55.set_0 | apply IsS55.set_1 | apply IsS55.set_2 | refine IsS55.far ?_ NB143_145.out _) | exact HI143.out)).2⟩)); have n2_ := Aside0.mk (hb); have n3_ := Aside0.mk (hi); clear BK145; clear HI143; clear HB; clear HI142; have BK145 := n0_; have HI143 := n1_; have HB := n2_; have HI142 := n3_; clear n0_ n1_ n2_ n3_; (try clear hb); (try clear hb2); (try clear hk); (try clear hi)) | ((with_reducible refine gate_callee (f := 33) rfl ?_); refine goesL_ (some 82) rfl rfl Try.func33 (by kernel_rfl) rfl #[.pointer (some ⟨g142, 0, none⟩)] rfl (by (try simp only [List.map_toArray, List.map_cons, List.map_nil]); first | done | rfl | (simp only [List.length_drop, List.length_take]; rfl)) ?_; (with_reducible refine (token_Token_Commits.calls g142 t179 t180 t181 t182 t183 t184 t185 w _ ?side1 ?side2 A48.out).mono ?_); (case side1 => repeat (first | (with_reducible first | exact HI142.out | apply IsS66.alloc | apply IsS66.drewN | apply IsS66.drew | apply IsS66.set_0 | apply IsS66.set_1 | apply IsS66.set_2 | refine IsS66.far ?_ NB142_145.out _) | exact HI142.out)); (case side2 => repeat (first | (with_reducible first | exact HB.out | apply below_alloc | apply pw_below_drewN | apply below_drew1 | refine below_set ?_ (IsS66.ge HI142.out) | refine below_set ?_ (IsS55.ge HI143.out) | refine below_set ?_ GE145.out) | exact HB.out)); rintro e w51 ⟨rfl, hi, hb, hk⟩; refine ⟨_, rfl, ?_⟩; have n0_ := Aside0.mk (KeepBut.blk hk (g' := gb145) (o := .cells #[.int .i64 ((rd_T49 l0 x25_1).f0), .int .i64 ((rd_T49 l0 x25_1).f1), .bool ((rd_T49 l0 x25_1).f2)] 49 (0, 0)) (by (with_reducible repeat (first | refine blk_drewN ?_ _ | refine blk_drew ?_ | refine blk_alloc ?_ _)); exact BK145.out) NB145_142.out (by simp)); have n1_ := Aside0.mk ((show IsS55 w w51 gb143 x144000_13 x144001_13 x144002_13 from ⟨KeepBut.blk hk (show IsS55 w _ gb143 x144000_13 x144001_13 x144002_13 from by repeat (first | (with_reducible first | exact HI143.out | apply IsS55.alloc | apply IsS55.drewN | apply IsS55.drew | apply IsS55.set_0 | apply IsS55.set_1 | apply IsS55.set_2 | refine IsS55.far ?_ NB143_145.out _) | exact HI143.out)).1 NB143_142.out (by simp), (show IsS55 w _ gb143 x144000_13 x144001_13 x144002_13 from by repeat (first | (with_reducible first | exact HI143.out | apply IsS55.alloc | apply IsS55.drewN | apply IsS55.drew | apply IsS55.set_0 | apply IsS55.set_1 | apply IsS55.set_2 | refine IsS55.far ?_ NB143_145.out _) | exact HI143.out)).2⟩)); have n2_ := Aside0.mk (hb); have n3_ := Aside0.mk (hi); clear BK145; clear HI143; clear HB; clear HI142; have BK145 := n0_; have HI143 := n1_; have HB := n2_; have HI142 := n3_; clear n0_ n1_ n2_ n3_; (try clear hb); (try clear hb2); (try clear hk); (try clear hi)))
     (try simp only [Act.put, y1_, y2_, y3_])
     go_cut [130] (fun v130 wc => ∃ (kq : Nat) (x130_48 : Bool) (x143000_48 : Int) (x143001_48 : Bool) (x143002_48 : Int), v130 = .bool x130_48 ∧ Aside0 (countermandlaw19_TokenDoes.j2 kq a1 l0 (l0.length : Int) x25_1 x130_48 x143000_48 x143001_48 x143002_48 x144000_13 x144001_13 x144002_13 ((rd_T49 l0 x25_1).f0) ((rd_T49 l0 x25_1).f1) ((rd_T49 l0 x25_1).f2) = some r) ∧ Aside0 (kq ≤ kj13) ∧ Aside0 (wc.heap[gb145]? = some (.cells #[.int .i64 ((rd_T49 l0 x25_1).f0), .int .i64 ((rd_T49 l0 x25_1).f1), .bool ((rd_T49 l0 x25_1).f2)] 49 (0, 0))) ∧ Aside0 (IsS66 w wc g142 x143000_48 x143001_48 x143002_48) ∧ Aside0 (IsS55 w wc gb143 x144000_13 x144001_13 x144002_13) ∧ Aside0 (Below w.heap.size w wc))
     case first =>
      have H := HC49.out
      clear HC49
      by_cases c52 : x9_13 = true
      rotate_left
      ·replace c52 := Bool.eq_false_iff.mpr c52
       subst c52
       have H1 : (countermandlaw19_TokenDoes.j2 kj13 a1 l0 (l0.length : Int) x25_1 true t183 t184 t185 x144000_13 x144001_13 x144002_13 ((rd_T49 l0 x25_1).f0) ((rd_T49 l0 x25_1).f1) ((rd_T49 l0 x25_1).f2)) = some r := by rw [if_neg (show ¬ (false = true) by decide)] at H; exact H
       clear H
       have H := H1
       clear H1
       exact absurd ((countermandlaw19_TokenDoes.j2_false H).symm.trans hrT) (by decide)
      subst c52
      have H1 : (if t178 = x144000_13 then (if t182 = x144002_13 then ((token_Token_Soft.f t183 t184 t185).bind fun bt186 => (if x144000_13 ≥ 0 then (if bt186.1 = (!x144001_13) then (if t178 ≥ 0 then (if t182 ≥ 0 then (countermandlaw19_TokenDoes.j2 kj13 a1 l0 (l0.length : Int) x25_1 (t178 != t182) bt186.2.1 bt186.2.2.1 bt186.2.2.2 x144000_13 x144001_13 x144002_13 ((rd_T49 l0 x25_1).f0) ((rd_T49 l0 x25_1).f1) ((rd_T49 l0 x25_1).f2)) else (countermandlaw19_TokenDoes.j2 kj13 a1 l0 (l0.length : Int) x25_1 false bt186.2.1 bt186.2.2.1 bt186.2.2.2 x144000_13 x144001_13 x144002_13 ((rd_T49 l0 x25_1).f0) ((rd_T49 l0 x25_1).f1) ((rd_T49 l0 x25_1).f2))) else (countermandlaw19_TokenDoes.j2 kj13 a1 l0 (l0.length : Int) x25_1 false bt186.2.1 bt186.2.2.1 bt186.2.2.2 x144000_13 x144001_13 x144002_13 ((rd_T49 l0 x25_1).f0) ((rd_T49 l0 x25_1).f1) ((rd_T49 l0 x25_1).f2))) else (countermandlaw19_TokenDoes.j2 kj13 a1 l0 (l0.length : Int) x25_1 true bt186.2.1 bt186.2.2.1 bt186.2.2.2 x144000_13 x144001_13 x144002_13 ((rd_T49 l0 x25_1).f0) ((rd_T49 l0 x25_1).f1) ((rd_T49 l0 x25_1).f2))) else (if bt186.1 = true then (countermandlaw19_TokenDoes.j2 kj13 a1 l0 (l0.length : Int) x25_1 true bt186.2.1 bt186.2.2.1 bt186.2.2.2 x144000_13 x144001_13 x144002_13 ((rd_T49 l0 x25_1).f0) ((rd_T49 l0 x25_1).f1) ((rd_T49 l0 x25_1).f2)) else (if t178 ≥ 0 then (if t182 ≥ 0 then (countermandlaw19_TokenDoes.j2 kj13 a1 l0 (l0.length : Int) x25_1 (t178 != t182) bt186.2.1 bt186.2.2.1 bt186.2.2.2 x144000_13 x144001_13 x144002_13 ((rd_T49 l0 x25_1).f0) ((rd_T49 l0 x25_1).f1) ((rd_T49 l0 x25_1).f2)) else (countermandlaw19_TokenDoes.j2 kj13 a1 l0 (l0.length : Int) x25_1 false bt186.2.1 bt186.2.2.1 bt186.2.2.2 x144000_13 x144001_13 x144002_13 ((rd_T49 l0 x25_1).f0) ((rd_T49 l0 x25_1).f1) ((rd_T49 l0 x25_1).f2))) else (countermandlaw19_TokenDoes.j2 kj13 a1 l0 (l0.length : Int) x25_1 false bt186.2.1 bt186.2.2.1 bt186.2.2.2 x144000_13 x144001_13 x144002_13 ((rd_T49 l0 x25_1).f0) ((rd_T49 l0 x25_1).f1) ((rd_T49 l0 x25_1).f2)))))) else (countermandlaw19_TokenDoes.j2 kj13 a1 l0 (l0.length : Int) x25_1 true t183 t184 t185 x144000_13 x144001_13 x144002_13 ((rd_T49 l0 x25_1).f0) ((rd_T49 l0 x25_1).f1) ((rd_T49 l0 x25_1).f2))) else (countermandlaw19_TokenDoes.j2 kj13 a1 l0 (l0.length : Int) x25_1 true t183 t184 t185 x144000_13 x144001_13 x144002_13 ((rd_T49 l0 x25_1).f0) ((rd_T49 l0 x25_1).f1) ((rd_T49 l0 x25_1).f2))) = some r := by rw [if_pos rfl] at H; exact H
      clear H
      have H := H1
      clear H1
      by_cases c53 : t178 = x144000_13
      rotate_left
      ·rw [if_neg c53] at H
       have c53b0 : (t178 == x144000_13) = false := beq_eq_false_iff_ne.mpr c53
       have c53b1 : (t178 != x144000_13) = true := bne_iff_ne.mpr c53
       (first | rw [c53b0] | (simp only [i64_w, i32_w]; rw [c53b0]) | skip)
       exact absurd ((countermandlaw19_TokenDoes.j2_false H).symm.trans hrT) (by decide)
      rw [if_pos c53] at H
      have c53b0 : (t178 == x144000_13) = true := beq_iff_eq.mpr c53
      have c53b1 : (t178 != x144000_13) = false := bne_eq_false_iff_eq.mpr c53
      clear c53
      (first | rw [c53b0] | (simp only [i64_w, i32_w]; rw [c53b0]) | skip)
      by_cases c54 : t182 = x144002_13
      rotate_left
      ·rw [if_neg c54] at H
       have c54b0 : (t182 == x144002_13) = false := beq_eq_false_iff_ne.mpr c54
       have c54b1 : (t182 != x144002_13) = true := bne_iff_ne.mpr c54
       exact absurd ((countermandlaw19_TokenDoes.j2_false H).symm.trans hrT) (by decide)
      rw [if_pos c54] at H
      have c54b0 : (t182 == x144002_13) = true := beq_iff_eq.mpr c54
      have c54b1 : (t182 != x144002_13) = false := bne_eq_false_iff_eq.mpr c54
      clear c54
      replace H := Option.bind_eq_some_iff.mp H
      obtain ⟨⟨t186, t187, t188, t189⟩, A550, H⟩ := H
      replace H : (if x144000_13 ≥ 0 then (if t186 = (!x144001_13) then (if t178 ≥ 0 then (if t182 ≥ 0 then (countermandlaw19_TokenDoes.j2 kj13 a1 l0 (l0.length : Int) x25_1 (t178 != t182) t187 t188 t189 x144000_13 x144001_13 x144002_13 ((rd_T49 l0 x25_1).f0) ((rd_T49 l0 x25_1).f1) ((rd_T49 l0 x25_1).f2)) else (countermandlaw19_TokenDoes.j2 kj13 a1 l0 (l0.length : Int) x25_1 false t187 t188 t189 x144000_13 x144001_13 x144002_13 ((rd_T49 l0 x25_1).f0) ((rd_T49 l0 x25_1).f1) ((rd_T49 l0 x25_1).f2))) else (countermandlaw19_TokenDoes.j2 kj13 a1 l0 (l0.length : Int) x25_1 false t187 t188 t189 x144000_13 x144001_13 x144002_13 ((rd_T49 l0 x25_1).f0) ((rd_T49 l0 x25_1).f1) ((rd_T49 l0 x25_1).f2))) else (countermandlaw19_TokenDoes.j2 kj13 a1 l0 (l0.length : Int) x25_1 true t187 t188 t189 x144000_13 x144001_13 x144002_13 ((rd_T49 l0 x25_1).f0) ((rd_T49 l0 x25_1).f1) ((rd_T49 l0 x25_1).f2))) else (if t186 = true then (countermandlaw19_TokenDoes.j2 kj13 a1 l0 (l0.length : Int) x25_1 true t187 t188 t189 x144000_13 x144001_13 x144002_13 ((rd_T49 l0 x25_1).f0) ((rd_T49 l0 x25_1).f1) ((rd_T49 l0 x25_1).f2)) else (if t178 ≥ 0 then (if t182 ≥ 0 then (countermandlaw19_TokenDoes.j2 kj13 a1 l0 (l0.length : Int) x25_1 (t178 != t182) t187 t188 t189 x144000_13 x144001_13 x144002_13 ((rd_T49 l0 x25_1).f0) ((rd_T49 l0 x25_1).f1) ((rd_T49 l0 x25_1).f2)) else (countermandlaw19_TokenDoes.j2 kj13 a1 l0 (l0.length : Int) x25_1 false t187 t188 t189 x144000_13 x144001_13 x144002_13 ((rd_T49 l0 x25_1).f0) ((rd_T49 l0 x25_1).f1) ((rd_T49 l0 x25_1).f2))) else (countermandlaw19_TokenDoes.j2 kj13 a1 l0 (l0.length : Int) x25_1 false t187 t188 t189 x144000_13 x144001_13 x144002_13 ((rd_T49 l0 x25_1).f0) ((rd_T49 l0 x25_1).f1) ((rd_T49 l0 x25_1).f2))))) = some r := H
      have A55 := Aside0.mk A550
      clear A550
      by_cases c56 : x144000_13 ≥ 0
      rotate_left
      ·rw [if_neg c56] at H
       have c56b0 : decide (0 ≤ x144000_13) = false := decide_eq_false c56
       clear c56
       by_cases c66 : t186 = true
       ·subst c66
        have H1 : (countermandlaw19_TokenDoes.j2 kj13 a1 l0 (l0.length : Int) x25_1 true t187 t188 t189 x144000_13 x144001_13 x144002_13 ((rd_T49 l0 x25_1).f0) ((rd_T49 l0 x25_1).f1) ((rd_T49 l0 x25_1).f2)) = some r := by rw [if_pos rfl] at H; exact H
        clear H
        have H := H1
        clear H1
        exact absurd ((countermandlaw19_TokenDoes.j2_false H).symm.trans hrT) (by decide)
       replace c66 := Bool.eq_false_iff.mpr c66
       subst c66
       have H1 : (if t178 ≥ 0 then (if t182 ≥ 0 then (countermandlaw19_TokenDoes.j2 kj13 a1 l0 (l0.length : Int) x25_1 (t178 != t182) t187 t188 t189 x144000_13 x144001_13 x144002_13 ((rd_T49 l0 x25_1).f0) ((rd_T49 l0 x25_1).f1) ((rd_T49 l0 x25_1).f2)) else (countermandlaw19_TokenDoes.j2 kj13 a1 l0 (l0.length : Int) x25_1 false t187 t188 t189 x144000_13 x144001_13 x144002_13 ((rd_T49 l0 x25_1).f0) ((rd_T49 l0 x25_1).f1) ((rd_T49 l0 x25_1).f2))) else (countermandlaw19_TokenDoes.j2 kj13 a1 l0 (l0.length : Int) x25_1 false t187 t188 t189 x144000_13 x144001_13 x144002_13 ((rd_T49 l0 x25_1).f0) ((rd_T49 l0 x25_1).f1) ((rd_T49 l0 x25_1).f2))) = some r := by rw [if_neg (show ¬ (false = true) by decide)] at H; exact H
       clear H
       have H := H1
       clear H1
       by_cases c67 : t178 ≥ 0
       rotate_left
       ·rw [if_neg c67] at H
        have c67b0 : decide (0 ≤ t178) = false := decide_eq_false c67
        clear c67
        have H' := Aside0.mk H
        clear H
        try go_wp2
        have BS143 := Aside0.mk (show IsS55 w _ gb143 x144000_13 x144001_13 x144002_13 from by repeat (first | (with_reducible first | exact HI143.out | apply IsS55.alloc | apply IsS55.drewN | apply IsS55.drew | apply IsS55.set_0 | apply IsS55.set_1 | apply IsS55.set_2 | refine IsS55.far ?_ NB143_145.out _) | exact HI143.out)).1
        have n0_ := Aside0.mk (blk_drew BK145.out)
        have n1_ := Aside0.mk (blk_drew BS143.out)
        have n2_ := Aside0.mk (IsS66.drew HI142.out)
        have n3_ := Aside0.mk (IsS55.drew HI143.out)
        have n4_ := Aside0.mk (below_drew1 HB.out)
        clear BK145 BS143 HI142 HI143 HB
        have BK145 := n0_
        have BS143 := n1_
        have HI142 := n2_
        have HI143 := n3_
        have HB := n4_
        clear n0_ n1_ n2_ n3_ n4_
        refine start_ (n := 48) (S := fun w' => w'.cell? ⟨gb143, 0, none⟩ = some (.int .i64 x144000_13) ∧ w'.cell? ⟨gb143, 1, none⟩ = some (.bool x144001_13) ∧ w'.cell? ⟨gb143, 2, none⟩ = some (.int .i64 x144002_13)) (ds := []) vb26_ (by kernel_rfl) rfl rfl ⟨(blk_cell BS143.out 0).trans rfl, (blk_cell BS143.out 1).trans rfl, (blk_cell BS143.out 2).trans rfl⟩ (fun hHeld => ?_); refine with_tabW countermandlaw19_TokenDoes.tab20 countermandlaw19_TokenDoes.bits20 (fun HT_ HW_ => ?_)
        generalize w51.drew = w73 at BK145 BS143 HI142 HI143 HB hHeld ⊢
        refine pure_ (i := 0) (N := some 83) (v := ?_) (a' := ?_) vb27_ rfl rfl (any_of HT_.out (by kernel_rfl)) (fun _ _ _ h => h) (Or.inl ⟨by rfl, ?_⟩) ?_ ?_
        rotate_left
        ·intro w'
         go_simp
         with_reducible rfl
        rotate_left
        ·simp only [Act.put, y1_, y2_, y3_, i64_w, i32_w]
         rfl
        refine pure_ (i := 1) (N := some 84) (v := ?_) (a' := ?_) vb28_ rfl rfl (any_of HT_.out (by kernel_rfl)) (fun _ _ _ h => h) (Or.inl ⟨by rfl, ?_⟩) ?_ ?_
        rotate_left
        ·intro w'
         go_simp
         with_reducible rfl
        rotate_left
        ·simp only [Act.put, y1_, y2_, y3_, i64_w, i32_w]
         rfl
        refine pure_ (i := 2) (N := some 85) (v := ?_) (a' := ?_) vb29_ rfl rfl (any_of HT_.out (by kernel_rfl)) (fun _ _ _ h => h) (Or.inl ⟨by rfl, ?_⟩) ?_ ?_
        rotate_left
        ·intro w'
         go_simp
         with_reducible rfl
        rotate_left
        ·simp only [Act.put, y1_, y2_, y3_, i64_w, i32_w]
         rfl
        refine pure_ (i := 3) (N := some 86) (v := ?_) (a' := ?_) vb30_ rfl rfl (any_of HT_.out (by kernel_rfl)) (fun _ _ _ h => h) (Or.inl ⟨by rfl, ?_⟩) ?_ ?_
        rotate_left
        ·intro w'
         go_simp
         with_reducible rfl
        rotate_left
        ·simp only [Act.put, y1_, y2_, y3_, i64_w, i32_w]
         rfl
        refine pure_ (i := 4) (N := some 87) (v := ?_) (a' := ?_) vb31_ rfl rfl (any_of HT_.out (by kernel_rfl)) (fun _ _ _ h => h) (Or.inl ⟨by rfl, ?_⟩) ?_ ?_
        rotate_left
        ·intro w'
         go_simp
         with_reducible rfl
        rotate_left
        ·simp only [Act.put, y1_, y2_, y3_, i64_w, i32_w]
         rfl
        refine pure_ (i := 5) (N := some 88) (v := ?_) (a' := ?_) vb32_ rfl rfl (any_of HT_.out (by kernel_rfl)) (fun _ _ _ h => h) (Or.inl ⟨by rfl, ?_⟩) ?_ ?_
        rotate_left
        ·intro w'
         go_simp
         with_reducible rfl
        rotate_left
        ·simp only [Act.put, y1_, y2_, y3_, i64_w, i32_w]
         rfl
        refine pure_ (i := 6) (N := some 89) (v := ?_) (a' := ?_) vb33_ rfl rfl (any_of HT_.out (by kernel_rfl)) (fun _ _ _ h => h) (Or.inl ⟨by rfl, ?_⟩) ?_ ?_
        rotate_left
        ·intro w'
         go_simp
         with_reducible rfl
        rotate_left
        ·simp only [Act.put, y1_, y2_, y3_, i64_w, i32_w]
         rfl
        refine take_ (i := 7) (N := some 90) (v := ?_) (a' := ?_) vb34_ rfl rfl (take_ofW HT_.out HW_.out (by kernel_rfl)) (fun _ _ _ h => h) (Or.inl ⟨by rfl, ?_⟩) hHeld ?_ ?_
        rotate_left
        ·rintro w' ⟨s0, s1, s2⟩
         go_simp
         with_reducible rfl
        rotate_left
        ·simp only [Act.put, y1_, y2_, y3_, i64_w, i32_w]
         rfl
        refine pure_ (i := 8) (N := some 91) (v := ?_) (a' := ?_) vb35_ rfl rfl (any_of HT_.out (by kernel_rfl)) (fun _ _ _ h => h) (Or.inl ⟨by rfl, ?_⟩) ?_ ?_
        rotate_left
        ·intro w'
         go_simp
         with_reducible rfl
        rotate_left
        ·simp only [Act.put, y1_, y2_, y3_, i64_w, i32_w]
         rfl
        refine pure_ (i := 9) (N := some 92) (v := ?_) (a' := ?_) vb36_ rfl rfl (any_of HT_.out (by kernel_rfl)) (fun _ _ _ h => h) (Or.inl ⟨by rfl, ?_⟩) ?_ ?_
        rotate_left
        ·intro w'
         go_simp
         with_reducible rfl
        rotate_left
        ·simp only [Act.put, y1_, y2_, y3_, i64_w, i32_w]
         rfl
        refine pure_ (i := 10) (N := some 93) (v := ?_) (a' := ?_) vb37_ rfl rfl (any_of HT_.out (by kernel_rfl)) (fun _ _ _ h => h) (Or.inl ⟨by rfl, ?_⟩) ?_ ?_
        rotate_left
        ·intro w'
         go_simp
         with_reducible rfl
        rotate_left
        ·simp only [Act.put, y1_, y2_, y3_, i64_w, i32_w]
         rfl
        refine pure_ (i := 11) (N := some 94) (v := ?_) (a' := ?_) vb38_ rfl rfl (any_of HT_.out (by kernel_rfl)) (fun _ _ _ h => h) (Or.inl ⟨by rfl, ?_⟩) ?_ ?_
        rotate_left
        ·intro w'
         go_simp
         with_reducible rfl
        rotate_left
        ·simp only [Act.put, y1_, y2_, y3_, i64_w, i32_w]
         rfl
        refine pure_ (i := 12) (N := some 95) (v := ?_) (a' := ?_) vb39_ rfl rfl (any_of HT_.out (by kernel_rfl)) (fun _ _ _ h => h) (Or.inl ⟨by rfl, ?_⟩) ?_ ?_
        rotate_left
        ·intro w'
         go_simp
         with_reducible rfl
        rotate_left
        ·simp only [Act.put, y1_, y2_, y3_, i64_w, i32_w]
         rfl
        refine pure_ (i := 13) (N := some 96) (v := ?_) (a' := ?_) vb40_ rfl rfl (any_of HT_.out (by kernel_rfl)) (fun _ _ _ h => h) (Or.inl ⟨by rfl, ?_⟩) ?_ ?_
        rotate_left
        ·intro w'
         go_simp
         with_reducible rfl
        rotate_left
        ·simp only [Act.put, y1_, y2_, y3_, i64_w, i32_w]
         rfl
        refine pure_ (i := 14) (N := some 97) (v := ?_) (a' := ?_) vb41_ rfl rfl (any_of HT_.out (by kernel_rfl)) (fun _ _ _ h => h) (Or.inl ⟨by rfl, ?_⟩) ?_ ?_
        rotate_left
        ·intro w'
         go_simp
         with_reducible rfl
        rotate_left
        ·simp only [Act.put, y1_, y2_, y3_, i64_w, i32_w]
         rfl
        refine take_ (i := 15) (N := some 98) (v := ?_) (a' := ?_) vb42_ rfl rfl (take_ofW HT_.out HW_.out (by kernel_rfl)) (fun _ _ _ h => h) (Or.inl ⟨by rfl, ?_⟩) hHeld ?_ ?_
        rotate_left
        ·rintro w' ⟨s0, s1, s2⟩
         go_simp
         with_reducible rfl
        rotate_left
        ·simp only [Act.put, y1_, y2_, y3_, i64_w, i32_w]
         rfl
        refine pure_ (i := 16) (N := some 99) (v := ?_) (a' := ?_) vb43_ rfl rfl (any_of HT_.out (by kernel_rfl)) (fun _ _ _ h => h) (Or.inl ⟨by rfl, ?_⟩) ?_ ?_
        rotate_left
        ·intro w'
         go_simp
         with_reducible rfl
        rotate_left
        ·simp only [Act.put, y1_, y2_, y3_, i64_w, i32_w]
         rfl
        refine pure_ (i := 17) (N := some 100) (v := ?_) (a' := ?_) vb44_ rfl rfl (any_of HT_.out (by kernel_rfl)) (fun _ _ _ h => h) (Or.inl ⟨by rfl, ?_⟩) ?_ ?_
        rotate_left
        ·intro w'
         go_simp
         with_reducible rfl
        rotate_left
        ·simp only [Act.put, y1_, y2_, y3_, i64_w, i32_w]
         rfl
        refine pure_ (i := 18) (N := some 101) (v := ?_) (a' := ?_) vb45_ rfl rfl (any_of HT_.out (by kernel_rfl)) (fun _ _ _ h => h) (Or.inl ⟨by rfl, ?_⟩) ?_ ?_
        rotate_left
        ·intro w'
         go_simp
         with_reducible rfl
        rotate_left
        ·simp only [Act.put, y1_, y2_, y3_, i64_w, i32_w]
         rfl
        refine pure_ (i := 19) (N := some 102) (v := ?_) (a' := ?_) vb46_ rfl rfl (any_of HT_.out (by kernel_rfl)) (fun _ _ _ h => h) (Or.inl ⟨by rfl, ?_⟩) ?_ ?_
        rotate_left
        ·intro w'
         go_simp
         with_reducible rfl
        rotate_left
        ·simp only [Act.put, y1_, y2_, y3_, i64_w, i32_w]
         rfl
        refine pure_ (i := 21) (N := some 104) (v := ?_) (a' := ?_) vb47_ rfl rfl (any_of HT_.out (by kernel_rfl)) (fun _ _ _ h => h) (Or.inl ⟨by rfl, ?_⟩) ?_ ?_
        rotate_left
        ·intro w'
         go_simp
         with_reducible rfl
        rotate_left
        ·simp only [Act.put, y1_, y2_, y3_, i64_w, i32_w]
         rfl
        refine pure_ (i := 22) (N := some 105) (v := ?_) (a' := ?_) vb48_ rfl rfl (any_of HT_.out (by kernel_rfl)) (fun _ _ _ h => h) (Or.inl ⟨by rfl, ?_⟩) ?_ ?_
        rotate_left
        ·intro w'
         go_simp
         with_reducible rfl
        rotate_left
        ·simp only [Act.put, y1_, y2_, y3_, i64_w, i32_w]
         rfl
        refine pure_ (i := 23) (N := some 106) (v := ?_) (a' := ?_) vb49_ rfl rfl (any_of HT_.out (by kernel_rfl)) (fun _ _ _ h => h) (Or.inl ⟨by rfl, ?_⟩) ?_ ?_
        rotate_left
        ·intro w'
         go_simp
         with_reducible rfl
        rotate_left
        ·simp only [Act.put, y1_, y2_, y3_, i64_w, i32_w]
         rfl
        refine take_ (i := 24) (N := some 107) (v := ?_) (a' := ?_) vb50_ rfl rfl (take_ofW HT_.out HW_.out (by kernel_rfl)) (fun _ _ _ h => h) (Or.inl ⟨by rfl, ?_⟩) hHeld ?_ ?_
        rotate_left
        ·rintro w' ⟨s0, s1, s2⟩
         go_simp
         with_reducible rfl
        rotate_left
        ·simp only [Act.put, y1_, y2_, y3_, i64_w, i32_w]
         rfl
        refine pure_ (i := 25) (N := some 108) (v := ?_) (a' := ?_) vb51_ rfl rfl (any_of HT_.out (by kernel_rfl)) (fun _ _ _ h => h) (Or.inl ⟨by rfl, ?_⟩) ?_ ?_
        rotate_left
        ·intro w'
         go_simp
         with_reducible rfl
        rotate_left
        ·simp only [Act.put, y1_, y2_, y3_, i64_w, i32_w]
         rfl
        refine one_ (i := 20) (N := some 103) vb52_ rfl rfl (one_of HT_.out (by kernel_rfl)) (by decide) (fun K hK => ?_)
        refine goes_ Try.func31 (by kernel_rfl) rfl #[.pointer (some ⟨g142, 0, none⟩)] (by rfl) rfl rfl (by (try simp only [List.map_toArray, List.map_cons, List.map_nil]); first | done | rfl | (simp only [List.length_drop, List.length_take]; rfl)) ?_
        with_reducible refine (token_Token_Soft.calls g142 t183 t184 t185 false t187 t188 t189 w _ ?side1 ?side2 A55.out).mono ?_
        (case side1 => repeat (first | (with_reducible first | exact HI142.out | apply IsS66.alloc | apply IsS66.drewN | apply IsS66.drew | apply IsS66.set_0 | apply IsS66.set_1 | apply IsS66.set_2 | refine IsS66.far ?_ NB142_145.out _ | refine IsS66.far ?_ NB142_143.out _) | exact HI142.out))
        (case side2 => repeat (first | (with_reducible first | exact HB.out | apply below_alloc | apply pw_below_drewN | apply below_drew1 | refine below_set ?_ (IsS66.ge HI142.out) | refine below_set ?_ (IsS55.ge HI143.out) | refine below_set ?_ GE145.out | refine below_set ?_ GE143.out) | exact HB.out))
        rintro e w74 ⟨rfl, hi, hb, hk⟩
        refine ⟨_, rfl, ?_⟩
        have n0_ := Aside0.mk (KeepBut.blk hk (g' := gb145) (o := .cells #[.int .i64 ((rd_T49 l0 x25_1).f0), .int .i64 ((rd_T49 l0 x25_1).f1), .bool ((rd_T49 l0 x25_1).f2)] 49 (0, 0)) (by (with_reducible repeat (first | refine blk_drewN ?_ _ | refine blk_drew ?_ | refine blk_alloc ?_ _)); exact BK145.out) NB145_142.out (by simp))
        have n1_ := Aside0.mk ((show IsS55 w w74 gb143 x144000_13 x144001_13 x144002_13 from ⟨KeepBut.blk hk (show IsS55 w _ gb143 x144000_13 x144001_13 x144002_13 from by repeat (first | (with_reducible first | exact HI143.out | apply IsS55.alloc | apply IsS55.drewN | apply IsS55.drew | apply IsS55.set_0 | apply IsS55.set_1 | apply IsS55.set_2 | refine IsS55.far ?_ NB143_145.out _ | refine IsS55.far ?_ NB143_143.out _) | exact HI143.out)).1 NB143_142.out (by simp), (show IsS55 w _ gb143 x144000_13 x144001_13 x144002_13 from by repeat (first | (with_reducible first | exact HI143.out | apply IsS55.alloc | apply IsS55.drewN | apply IsS55.drew | apply IsS55.set_0 | apply IsS55.set_1 | apply IsS55.set_2 | refine IsS55.far ?_ NB143_145.out _ | refine IsS55.far ?_ NB143_143.out _) | exact HI143.out)).2⟩))
        have n2_ := Aside0.mk (KeepBut.blk hk (g' := gb143) (o := .cells #[.int .i64 x144000_13, .bool x144001_13, .int .i64 x144002_13] 55 (0, 0)) (by (with_reducible repeat (first | refine blk_drewN ?_ _ | refine blk_drew ?_ | refine blk_alloc ?_ _)); exact BS143.out) NB143_142.out (by simp))
        have n3_ := Aside0.mk (hb)
        have n4_ := Aside0.mk (hi)
        clear BK145 HI143 BS143 HB HI142
        have BK145 := n0_
        have HI143 := n1_
        have BS143 := n2_
        have HB := n3_
        have HI142 := n4_
        clear n0_ n1_ n2_ n3_ n4_
        (try clear hb); (try clear hb2)
        (try clear hk); (try clear hi)
        refine hK.out _ _ ⟨(blk_cell BS143.out 0).trans rfl, (blk_cell BS143.out 1).trans rfl, (blk_cell BS143.out 2).trans rfl⟩ (fun hHeld => ?_)
        clear hK K
        refine norm_ (a' := ?_) ?_ ?_
        rotate_left
        ·show Act.put _ (some 103) _ = _
         simp only [Act.put, y1_, y2_, y3_, i64_w, i32_w]
         rfl
        refine pure_ (i := 26) (N := some 109) (v := ?_) (a' := ?_) vb53_ rfl rfl (any_of HT_.out (by kernel_rfl)) (fun _ _ _ h => h) (Or.inl ⟨by rfl, ?_⟩) ?_ ?_
        rotate_left
        ·intro w'
         go_simp
         with_reducible rfl
        rotate_left
        ·simp only [Act.put, y1_, y2_, y3_, i64_w, i32_w]
         rfl
        refine pure_ (i := 27) (N := some 110) (v := undef) (a' := ?_) vb54_ rfl rfl (any_of HT_.out (by kernel_rfl)) (fun _ _ _ h => h) (Or.inr ⟨by rfl, rfl⟩) ?_ ?_
        rotate_left
        ·simp only [Act.put, y1_, y2_, y3_, i64_w, i32_w]
         rfl
        refine pure_ (i := 28) (N := some 111) (v := undef) (a' := ?_) vb55_ rfl rfl (any_of HT_.out (by kernel_rfl)) (fun _ _ _ h => h) (Or.inr ⟨by rfl, rfl⟩) ?_ ?_
        rotate_left
        ·simp only [Act.put, y1_, y2_, y3_, i64_w, i32_w]
         rfl
        refine pure_ (i := 29) (N := some 112) (v := undef) (a' := ?_) vb56_ rfl rfl (any_of HT_.out (by kernel_rfl)) (fun _ _ _ h => h) (Or.inr ⟨by rfl, rfl⟩) ?_ ?_
        rotate_left
        ·simp only [Act.put, y1_, y2_, y3_, i64_w, i32_w]
         rfl
        refine pure_ (i := 30) (N := some 113) (v := undef) (a' := ?_) vb57_ rfl rfl (any_of HT_.out (by kernel_rfl)) (fun _ _ _ h => h) (Or.inr ⟨by rfl, rfl⟩) ?_ ?_
        rotate_left
        ·simp only [Act.put, y1_, y2_, y3_, i64_w, i32_w]
         rfl
        refine pure_ (i := 31) (N := some 114) (v := undef) (a' := ?_) vb58_ rfl rfl (any_of HT_.out (by kernel_rfl)) (fun _ _ _ h => h) (Or.inr ⟨by rfl, rfl⟩) ?_ ?_
        rotate_left
        ·simp only [Act.put, y1_, y2_, y3_, i64_w, i32_w]
         rfl
        refine pure_ (i := 32) (N := some 115) (v := ?_) (a' := ?_) vb59_ rfl rfl (any_of HT_.out (by kernel_rfl)) (fun _ _ _ h => h) (Or.inl ⟨by rfl, ?_⟩) ?_ ?_
        rotate_left
        ·intro w'
         go_simp
         with_reducible rfl
        rotate_left
        ·simp only [Act.put, y1_, y2_, y3_, i64_w, i32_w]
         rfl
        refine pure_ (i := 33) (N := some 116) (v := ?_) (a' := ?_) vb60_ rfl rfl (any_of HT_.out (by kernel_rfl)) (fun _ _ _ h => h) (Or.inl ⟨by rfl, ?_⟩) ?_ ?_
        rotate_left
        ·intro w'
         go_simp
         with_reducible rfl
        rotate_left
        ·simp only [Act.put, y1_, y2_, y3_, i64_w, i32_w]
         rfl
        refine pure_ (i := 34) (N := some 117) (v := ?_) (a' := ?_) vb61_ rfl rfl (any_of HT_.out (by kernel_rfl)) (fun _ _ _ h => h) (Or.inl ⟨by rfl, ?_⟩) ?_ ?_
        rotate_left
        ·intro w'
         go_simp
         with_reducible rfl
        rotate_left
        ·simp only [Act.put, y1_, y2_, y3_, i64_w, i32_w]
         rfl
        refine pure_ (i := 35) (N := some 118) (v := ?_) (a' := ?_) vb62_ rfl rfl (any_of HT_.out (by kernel_rfl)) (fun _ _ _ h => h) (Or.inl ⟨by rfl, ?_⟩) ?_ ?_
        rotate_left
        ·intro w'
         go_simp
         with_reducible rfl
        rotate_left
        ·simp only [Act.put, y1_, y2_, y3_, i64_w, i32_w]
         rfl
        refine pure_ (i := 36) (N := some 119) (v := ?_) (a' := ?_) vb63_ rfl rfl (any_of HT_.out (by kernel_rfl)) (fun _ _ _ h => h) (Or.inl ⟨by rfl, ?_⟩) ?_ ?_
        rotate_left
        ·intro w'
         go_simp
         with_reducible rfl
        rotate_left
        ·simp only [Act.put, y1_, y2_, y3_, i64_w, i32_w]
         rfl
        refine pure_ (i := 37) (N := some 120) (v := ?_) (a' := ?_) vb64_ rfl rfl (any_of HT_.out (by kernel_rfl)) (fun _ _ _ h => h) (Or.inl ⟨by rfl, ?_⟩) ?_ ?_
        rotate_left
        ·intro w'
         go_simp
         with_reducible rfl
        rotate_left
        ·simp only [Act.put, y1_, y2_, y3_, i64_w, i32_w]
         rfl
        refine pure_ (i := 38) (N := some 121) (v := ?_) (a' := ?_) vb65_ rfl rfl (any_of HT_.out (by kernel_rfl)) (fun _ _ _ h => h) (Or.inl ⟨by rfl, ?_⟩) ?_ ?_
        rotate_left
        ·intro w'
         go_simp
         with_reducible rfl
        rotate_left
        ·simp only [Act.put, y1_, y2_, y3_, i64_w, i32_w]
         rfl
        refine pure_ (i := 39) (N := some 122) (v := undef) (a' := ?_) vb66_ rfl rfl (any_of HT_.out (by kernel_rfl)) (fun _ _ _ h => h) (Or.inr ⟨by rfl, rfl⟩) ?_ ?_
        rotate_left
        ·simp only [Act.put, y1_, y2_, y3_, i64_w, i32_w]
         rfl
        refine pure_ (i := 40) (N := some 123) (v := undef) (a' := ?_) vb67_ rfl rfl (any_of HT_.out (by kernel_rfl)) (fun _ _ _ h => h) (Or.inr ⟨by rfl, rfl⟩) ?_ ?_
        rotate_left
        ·simp only [Act.put, y1_, y2_, y3_, i64_w, i32_w]
         rfl
        refine pure_ (i := 41) (N := some 124) (v := ?_) (a' := ?_) vb68_ rfl rfl (any_of HT_.out (by kernel_rfl)) (fun _ _ _ h => h) (Or.inl ⟨by rfl, ?_⟩) ?_ ?_
        rotate_left
        ·intro w'
         go_simp
         with_reducible rfl
        rotate_left
        ·simp only [Act.put, y1_, y2_, y3_, i64_w, i32_w]
         rfl
        refine pure_ (i := 42) (N := some 125) (v := ?_) (a' := ?_) vb69_ rfl rfl (any_of HT_.out (by kernel_rfl)) (fun _ _ _ h => h) (Or.inl ⟨by rfl, ?_⟩) ?_ ?_
        rotate_left
        ·intro w'
         go_simp
         with_reducible rfl
        rotate_left
        ·simp only [Act.put, y1_, y2_, y3_, i64_w, i32_w]
         rfl
        refine pure_ (i := 43) (N := some 126) (v := undef) (a' := ?_) vb70_ rfl rfl (any_of HT_.out (by kernel_rfl)) (fun _ _ _ h => h) (Or.inr ⟨by rfl, rfl⟩) ?_ ?_
        rotate_left
        ·simp only [Act.put, y1_, y2_, y3_, i64_w, i32_w]
         rfl
        refine pure_ (i := 44) (N := some 127) (v := undef) (a' := ?_) vb71_ rfl rfl (any_of HT_.out (by kernel_rfl)) (fun _ _ _ h => h) (Or.inr ⟨by rfl, rfl⟩) ?_ ?_
        rotate_left
        ·simp only [Act.put, y1_, y2_, y3_, i64_w, i32_w]
         rfl
        refine pure_ (i := 45) (N := some 128) (v := undef) (a' := ?_) vb72_ rfl rfl (any_of HT_.out (by kernel_rfl)) (fun _ _ _ h => h) (Or.inr ⟨by rfl, rfl⟩) ?_ ?_
        rotate_left
        ·simp only [Act.put, y1_, y2_, y3_, i64_w, i32_w]
         rfl
        refine pure_ (i := 46) (N := some 129) (v := ?_) (a' := ?_) vb73_ rfl rfl (any_of HT_.out (by kernel_rfl)) (fun _ _ _ h => h) (Or.inl ⟨by rfl, ?_⟩) ?_ ?_
        rotate_left
        ·intro w'
         go_simp
         with_reducible rfl
        rotate_left
        ·simp only [Act.put, y1_, y2_, y3_, i64_w, i32_w]
         rfl
        refine pure_ (i := 47) (N := some 130) (v := ?_) (a' := ?_) vb74_ rfl rfl (any_of HT_.out (by kernel_rfl)) (fun _ _ _ h => h) (Or.inl ⟨by rfl, ?_⟩) ?_ ?_
        rotate_left
        ·intro w'
         go_simp
         with_reducible rfl
        rotate_left
        ·simp only [Act.put, y1_, y2_, y3_, i64_w, i32_w]
         rfl
        refine done_ (done_of HT_.out (by kernel_rfl)) ?_
        try go_wp2
        go_meet
        case rel => exact ⟨_, (false), (t187), (t188), (t189), (by first | rfl | (simp; done) | (simp [*]; done)), H', ⟨by have := HK1.out; have := HJ13.out; first | omega | exact Nat.le_refl _⟩, ⟨by (with_reducible repeat (first | refine blk_drewN ?_ _ | refine blk_drew ?_ | refine blk_alloc ?_ _)); exact BK145.out⟩, ⟨by repeat (first | (with_reducible first | exact HI142.out | apply IsS66.alloc | apply IsS66.drewN | apply IsS66.drew | apply IsS66.set_0 | apply IsS66.set_1 | apply IsS66.set_2 | refine IsS66.far ?_ NB142_145.out _) | exact HI142.out)⟩, ⟨by repeat (first | (with_reducible first | exact HI143.out | apply IsS55.alloc | apply IsS55.drewN | apply IsS55.drew | apply IsS55.set_0 | apply IsS55.set_1 | apply IsS55.set_2 | refine IsS55.far ?_ NB143_145.out _) | exact HI143.out)⟩, ⟨by repeat (first | (with_reducible first | exact HB.out | apply below_alloc | apply pw_below_drewN | apply below_drew1 | refine below_set ?_ (IsS66.ge HI142.out) | refine below_set ?_ (IsS55.ge HI143.out) | refine below_set ?_ GE145.out) | exact HB.out)⟩⟩
       rw [if_pos c67] at H
       have c67b0 : decide (0 ≤ t178) = true := decide_eq_true c67
       clear c67
       by_cases c68 : t182 ≥ 0
       rotate_left
       ·rw [if_neg c68] at H
        have c68b0 : decide (0 ≤ t182) = false := decide_eq_false c68
        clear c68
        have H' := Aside0.mk H
        clear H
        try go_wp2
        have BS143 := Aside0.mk (show IsS55 w _ gb143 x144000_13 x144001_13 x144002_13 from by repeat (first | (with_reducible first | exact HI143.out | apply IsS55.alloc | apply IsS55.drewN | apply IsS55.drew | apply IsS55.set_0 | apply IsS55.set_1 | apply IsS55.set_2 | refine IsS55.far ?_ NB143_145.out _) | exact HI143.out)).1
        have n0_ := Aside0.mk (blk_drew BK145.out)
        have n1_ := Aside0.mk (blk_drew BS143.out)
        have n2_ := Aside0.mk (IsS66.drew HI142.out)
        have n3_ := Aside0.mk (IsS55.drew HI143.out)
        have n4_ := Aside0.mk (below_drew1 HB.out)
        clear BK145 BS143 HI142 HI143 HB
        have BK145 := n0_
        have BS143 := n1_
        have HI142 := n2_
        have HI143 := n3_
        have HB := n4_
        clear n0_ n1_ n2_ n3_ n4_
        refine start_ (n := 48) (S := fun w' => w'.cell? ⟨gb143, 0, none⟩ = some (.int .i64 x144000_13) ∧ w'.cell? ⟨gb143, 1, none⟩ = some (.bool x144001_13) ∧ w'.cell? ⟨gb143, 2, none⟩ = some (.int .i64 x144002_13)) (ds := []) vb26_ (by kernel_rfl) rfl rfl ⟨(blk_cell BS143.out 0).trans rfl, (blk_cell BS143.out 1).trans rfl, (blk_cell BS143.out 2).trans rfl⟩ (fun hHeld => ?_); refine with_tabW countermandlaw19_TokenDoes.tab20 countermandlaw19_TokenDoes.bits20 (fun HT_ HW_ => ?_)
        generalize w51.drew = w71 at BK145 BS143 HI142 HI143 HB hHeld ⊢
        refine pure_ (i := 0) (N := some 83) (v := ?_) (a' := ?_) vb27_ rfl rfl (any_of HT_.out (by kernel_rfl)) (fun _ _ _ h => h) (Or.inl ⟨by rfl, ?_⟩) ?_ ?_
        rotate_left
        ·intro w'
         go_simp
         with_reducible rfl
        rotate_left
        ·simp only [Act.put, y1_, y2_, y3_, i64_w, i32_w]
         rfl
        refine pure_ (i := 1) (N := some 84) (v := ?_) (a' := ?_) vb28_ rfl rfl (any_of HT_.out (by kernel_rfl)) (fun _ _ _ h => h) (Or.inl ⟨by rfl, ?_⟩) ?_ ?_
        rotate_left
        ·intro w'
         go_simp
         with_reducible rfl
        rotate_left
        ·simp only [Act.put, y1_, y2_, y3_, i64_w, i32_w]
         rfl
        refine pure_ (i := 2) (N := some 85) (v := ?_) (a' := ?_) vb29_ rfl rfl (any_of HT_.out (by kernel_rfl)) (fun _ _ _ h => h) (Or.inl ⟨by rfl, ?_⟩) ?_ ?_
        rotate_left
        ·intro w'
         go_simp
         with_reducible rfl
        rotate_left
        ·simp only [Act.put, y1_, y2_, y3_, i64_w, i32_w]
         rfl
        refine pure_ (i := 3) (N := some 86) (v := ?_) (a' := ?_) vb30_ rfl rfl (any_of HT_.out (by kernel_rfl)) (fun _ _ _ h => h) (Or.inl ⟨by rfl, ?_⟩) ?_ ?_
        rotate_left
        ·intro w'
         go_simp
         with_reducible rfl
        rotate_left
        ·simp only [Act.put, y1_, y2_, y3_, i64_w, i32_w]
         rfl
        refine pure_ (i := 4) (N := some 87) (v := ?_) (a' := ?_) vb31_ rfl rfl (any_of HT_.out (by kernel_rfl)) (fun _ _ _ h => h) (Or.inl ⟨by rfl, ?_⟩) ?_ ?_
        rotate_left
        ·intro w'
         go_simp
         with_reducible rfl
        rotate_left
        ·simp only [Act.put, y1_, y2_, y3_, i64_w, i32_w]
         rfl
        refine pure_ (i := 5) (N := some 88) (v := ?_) (a' := ?_) vb32_ rfl rfl (any_of HT_.out (by kernel_rfl)) (fun _ _ _ h => h) (Or.inl ⟨by rfl, ?_⟩) ?_ ?_
        rotate_left
        ·intro w'
         go_simp
         with_reducible rfl
        rotate_left
        ·simp only [Act.put, y1_, y2_, y3_, i64_w, i32_w]
         rfl
        refine pure_ (i := 6) (N := some 89) (v := ?_) (a' := ?_) vb33_ rfl rfl (any_of HT_.out (by kernel_rfl)) (fun _ _ _ h => h) (Or.inl ⟨by rfl, ?_⟩) ?_ ?_
        rotate_left
        ·intro w'
         go_simp
         with_reducible rfl
        rotate_left
        ·simp only [Act.put, y1_, y2_, y3_, i64_w, i32_w]
         rfl
        refine take_ (i := 7) (N := some 90) (v := ?_) (a' := ?_) vb34_ rfl rfl (take_ofW HT_.out HW_.out (by kernel_rfl)) (fun _ _ _ h => h) (Or.inl ⟨by rfl, ?_⟩) hHeld ?_ ?_
        rotate_left
        ·rintro w' ⟨s0, s1, s2⟩
         go_simp
         with_reducible rfl
        rotate_left
        ·simp only [Act.put, y1_, y2_, y3_, i64_w, i32_w]
         rfl
        refine pure_ (i := 8) (N := some 91) (v := ?_) (a' := ?_) vb35_ rfl rfl (any_of HT_.out (by kernel_rfl)) (fun _ _ _ h => h) (Or.inl ⟨by rfl, ?_⟩) ?_ ?_
        rotate_left
        ·intro w'
         go_simp
         with_reducible rfl
        rotate_left
        ·simp only [Act.put, y1_, y2_, y3_, i64_w, i32_w]
         rfl
        refine pure_ (i := 9) (N := some 92) (v := ?_) (a' := ?_) vb36_ rfl rfl (any_of HT_.out (by kernel_rfl)) (fun _ _ _ h => h) (Or.inl ⟨by rfl, ?_⟩) ?_ ?_
        rotate_left
        ·intro w'
         go_simp
         with_reducible rfl
        rotate_left
        ·simp only [Act.put, y1_, y2_, y3_, i64_w, i32_w]
         rfl
        refine pure_ (i := 10) (N := some 93) (v := ?_) (a' := ?_) vb37_ rfl rfl (any_of HT_.out (by kernel_rfl)) (fun _ _ _ h => h) (Or.inl ⟨by rfl, ?_⟩) ?_ ?_
        rotate_left
        ·intro w'
         go_simp
         with_reducible rfl
        rotate_left
        ·simp only [Act.put, y1_, y2_, y3_, i64_w, i32_w]
         rfl
        refine pure_ (i := 11) (N := some 94) (v := ?_) (a' := ?_) vb38_ rfl rfl (any_of HT_.out (by kernel_rfl)) (fun _ _ _ h => h) (Or.inl ⟨by rfl, ?_⟩) ?_ ?_
        rotate_left
        ·intro w'
         go_simp
         with_reducible rfl
        rotate_left
        ·simp only [Act.put, y1_, y2_, y3_, i64_w, i32_w]
         rfl
        refine pure_ (i := 12) (N := some 95) (v := ?_) (a' := ?_) vb39_ rfl rfl (any_of HT_.out (by kernel_rfl)) (fun _ _ _ h => h) (Or.inl ⟨by rfl, ?_⟩) ?_ ?_
        rotate_left
        ·intro w'
         go_simp
         with_reducible rfl
        rotate_left
        ·simp only [Act.put, y1_, y2_, y3_, i64_w, i32_w]
         rfl
        refine pure_ (i := 13) (N := some 96) (v := ?_) (a' := ?_) vb40_ rfl rfl (any_of HT_.out (by kernel_rfl)) (fun _ _ _ h => h) (Or.inl ⟨by rfl, ?_⟩) ?_ ?_
        rotate_left
        ·intro w'
         go_simp
         with_reducible rfl
        rotate_left
        ·simp only [Act.put, y1_, y2_, y3_, i64_w, i32_w]
         rfl
        refine pure_ (i := 14) (N := some 97) (v := ?_) (a' := ?_) vb41_ rfl rfl (any_of HT_.out (by kernel_rfl)) (fun _ _ _ h => h) (Or.inl ⟨by rfl, ?_⟩) ?_ ?_
        rotate_left
        ·intro w'
         go_simp
         with_reducible rfl
        rotate_left
        ·simp only [Act.put, y1_, y2_, y3_, i64_w, i32_w]
         rfl
        refine take_ (i := 15) (N := some 98) (v := ?_) (a' := ?_) vb42_ rfl rfl (take_ofW HT_.out HW_.out (by kernel_rfl)) (fun _ _ _ h => h) (Or.inl ⟨by rfl, ?_⟩) hHeld ?_ ?_
        rotate_left
        ·rintro w' ⟨s0, s1, s2⟩
         go_simp
         with_reducible rfl
        rotate_left
        ·simp only [Act.put, y1_, y2_, y3_, i64_w, i32_w]
         rfl
        refine pure_ (i := 16) (N := some 99) (v := ?_) (a' := ?_) vb43_ rfl rfl (any_of HT_.out (by kernel_rfl)) (fun _ _ _ h => h) (Or.inl ⟨by rfl, ?_⟩) ?_ ?_
        rotate_left
        ·intro w'
         go_simp
         with_reducible rfl
        rotate_left
        ·simp only [Act.put, y1_, y2_, y3_, i64_w, i32_w]
         rfl
        refine pure_ (i := 17) (N := some 100) (v := ?_) (a' := ?_) vb44_ rfl rfl (any_of HT_.out (by kernel_rfl)) (fun _ _ _ h => h) (Or.inl ⟨by rfl, ?_⟩) ?_ ?_
        rotate_left
        ·intro w'
         go_simp
         with_reducible rfl
        rotate_left
        ·simp only [Act.put, y1_, y2_, y3_, i64_w, i32_w]
         rfl
        refine pure_ (i := 18) (N := some 101) (v := ?_) (a' := ?_) vb45_ rfl rfl (any_of HT_.out (by kernel_rfl)) (fun _ _ _ h => h) (Or.inl ⟨by rfl, ?_⟩) ?_ ?_
        rotate_left
        ·intro w'
         go_simp
         with_reducible rfl
        rotate_left
        ·simp only [Act.put, y1_, y2_, y3_, i64_w, i32_w]
         rfl
        refine pure_ (i := 19) (N := some 102) (v := ?_) (a' := ?_) vb46_ rfl rfl (any_of HT_.out (by kernel_rfl)) (fun _ _ _ h => h) (Or.inl ⟨by rfl, ?_⟩) ?_ ?_
        rotate_left
        ·intro w'
         go_simp
         with_reducible rfl
        rotate_left
        ·simp only [Act.put, y1_, y2_, y3_, i64_w, i32_w]
         rfl
        refine pure_ (i := 21) (N := some 104) (v := ?_) (a' := ?_) vb47_ rfl rfl (any_of HT_.out (by kernel_rfl)) (fun _ _ _ h => h) (Or.inl ⟨by rfl, ?_⟩) ?_ ?_
        rotate_left
        ·intro w'
         go_simp
         with_reducible rfl
        rotate_left
        ·simp only [Act.put, y1_, y2_, y3_, i64_w, i32_w]
         rfl
        refine pure_ (i := 22) (N := some 105) (v := ?_) (a' := ?_) vb48_ rfl rfl (any_of HT_.out (by kernel_rfl)) (fun _ _ _ h => h) (Or.inl ⟨by rfl, ?_⟩) ?_ ?_
        rotate_left
        ·intro w'
         go_simp
         with_reducible rfl
        rotate_left
        ·simp only [Act.put, y1_, y2_, y3_, i64_w, i32_w]
         rfl
        refine pure_ (i := 23) (N := some 106) (v := ?_) (a' := ?_) vb49_ rfl rfl (any_of HT_.out (by kernel_rfl)) (fun _ _ _ h => h) (Or.inl ⟨by rfl, ?_⟩) ?_ ?_
        rotate_left
        ·intro w'
         go_simp
         with_reducible rfl
        rotate_left
        ·simp only [Act.put, y1_, y2_, y3_, i64_w, i32_w]
         rfl
        refine take_ (i := 24) (N := some 107) (v := ?_) (a' := ?_) vb50_ rfl rfl (take_ofW HT_.out HW_.out (by kernel_rfl)) (fun _ _ _ h => h) (Or.inl ⟨by rfl, ?_⟩) hHeld ?_ ?_
        rotate_left
        ·rintro w' ⟨s0, s1, s2⟩
         go_simp
         with_reducible rfl
        rotate_left
        ·simp only [Act.put, y1_, y2_, y3_, i64_w, i32_w]
         rfl
        refine pure_ (i := 25) (N := some 108) (v := ?_) (a' := ?_) vb51_ rfl rfl (any_of HT_.out (by kernel_rfl)) (fun _ _ _ h => h) (Or.inl ⟨by rfl, ?_⟩) ?_ ?_
        rotate_left
        ·intro w'
         go_simp
         with_reducible rfl
        rotate_left
        ·simp only [Act.put, y1_, y2_, y3_, i64_w, i32_w]
         rfl
        refine one_ (i := 20) (N := some 103) vb52_ rfl rfl (one_of HT_.out (by kernel_rfl)) (by decide) (fun K hK => ?_)
        refine goes_ Try.func31 (by kernel_rfl) rfl #[.pointer (some ⟨g142, 0, none⟩)] (by rfl) rfl rfl (by (try simp only [List.map_toArray, List.map_cons, List.map_nil]); first | done | rfl | (simp only [List.length_drop, List.length_take]; rfl)) ?_
        with_reducible refine (token_Token_Soft.calls g142 t183 t184 t185 false t187 t188 t189 w _ ?side1 ?side2 A55.out).mono ?_
        (case side1 => repeat (first | (with_reducible first | exact HI142.out | apply IsS66.alloc | apply IsS66.drewN | apply IsS66.drew | apply IsS66.set_0 | apply IsS66.set_1 | apply IsS66.set_2 | refine IsS66.far ?_ NB142_145.out _ | refine IsS66.far ?_ NB142_143.out _) | exact HI142.out))
        (case side2 => repeat (first | (with_reducible first | exact HB.out | apply below_alloc | apply pw_below_drewN | apply below_drew1 | refine below_set ?_ (IsS66.ge HI142.out) | refine below_set ?_ (IsS55.ge HI143.out) | refine below_set ?_ GE145.out | refine below_set ?_ GE143.out) | exact HB.out))
        rintro e w72 ⟨rfl, hi, hb, hk⟩
        refine ⟨_, rfl, ?_⟩
        have n0_ := Aside0.mk (KeepBut.blk hk (g' := gb145) (o := .cells #[.int .i64 ((rd_T49 l0 x25_1).f0), .int .i64 ((rd_T49 l0 x25_1).f1), .bool ((rd_T49 l0 x25_1).f2)] 49 (0, 0)) (by (with_reducible repeat (first | refine blk_drewN ?_ _ | refine blk_drew ?_ | refine blk_alloc ?_ _)); exact BK145.out) NB145_142.out (by simp))
        have n1_ := Aside0.mk ((show IsS55 w w72 gb143 x144000_13 x144001_13 x144002_13 from ⟨KeepBut.blk hk (show IsS55 w _ gb143 x144000_13 x144001_13 x144002_13 from by repeat (first | (with_reducible first | exact HI143.out | apply IsS55.alloc | apply IsS55.drewN | apply IsS55.drew | apply IsS55.set_0 | apply IsS55.set_1 | apply IsS55.set_2 | refine IsS55.far ?_ NB143_145.out _ | refine IsS55.far ?_ NB143_143.out _) | exact HI143.out)).1 NB143_142.out (by simp), (show IsS55 w _ gb143 x144000_13 x144001_13 x144002_13 from by repeat (first | (with_reducible first | exact HI143.out | apply IsS55.alloc | apply IsS55.drewN | apply IsS55.drew | apply IsS55.set_0 | apply IsS55.set_1 | apply IsS55.set_2 | refine IsS55.far ?_ NB143_145.out _ | refine IsS55.far ?_ NB143_143.out _) | exact HI143.out)).2⟩))
        have n2_ := Aside0.mk (KeepBut.blk hk (g' := gb143) (o := .cells #[.int .i64 x144000_13, .bool x144001_13, .int .i64 x144002_13] 55 (0, 0)) (by (with_reducible repeat (first | refine blk_drewN ?_ _ | refine blk_drew ?_ | refine blk_alloc ?_ _)); exact BS143.out) NB143_142.out (by simp))
        have n3_ := Aside0.mk (hb)
        have n4_ := Aside0.mk (hi)
        clear BK145 HI143 BS143 HB HI142
        have BK145 := n0_
        have HI143 := n1_
        have BS143 := n2_
        have HB := n3_
        have HI142 := n4_
        clear n0_ n1_ n2_ n3_ n4_
        (try clear hb); (try clear hb2)
        (try clear hk); (try clear hi)
        refine hK.out _ _ ⟨(blk_cell BS143.out 0).trans rfl, (blk_cell BS143.out 1).trans rfl, (blk_cell BS143.out 2).trans rfl⟩ (fun hHeld => ?_)
        clear hK K
        refine norm_ (a' := ?_) ?_ ?_
        rotate_left
        ·show Act.put _ (some 103) _ = _
         simp only [Act.put, y1_, y2_, y3_, i64_w, i32_w]
         rfl
        refine pure_ (i := 26) (N := some 109) (v := ?_) (a' := ?_) vb53_ rfl rfl (any_of HT_.out (by kernel_rfl)) (fun _ _ _ h => h) (Or.inl ⟨by rfl, ?_⟩) ?_ ?_
        rotate_left
        ·intro w'
         go_simp
         with_reducible rfl
        rotate_left
        ·simp only [Act.put, y1_, y2_, y3_, i64_w, i32_w]
         rfl
        refine pure_ (i := 27) (N := some 110) (v := undef) (a' := ?_) vb54_ rfl rfl (any_of HT_.out (by kernel_rfl)) (fun _ _ _ h => h) (Or.inr ⟨by rfl, rfl⟩) ?_ ?_
        rotate_left
        ·simp only [Act.put, y1_, y2_, y3_, i64_w, i32_w]
         rfl
        refine pure_ (i := 28) (N := some 111) (v := undef) (a' := ?_) vb55_ rfl rfl (any_of HT_.out (by kernel_rfl)) (fun _ _ _ h => h) (Or.inr ⟨by rfl, rfl⟩) ?_ ?_
        rotate_left
        ·simp only [Act.put, y1_, y2_, y3_, i64_w, i32_w]
         rfl
        refine pure_ (i := 29) (N := some 112) (v := undef) (a' := ?_) vb56_ rfl rfl (any_of HT_.out (by kernel_rfl)) (fun _ _ _ h => h) (Or.inr ⟨by rfl, rfl⟩) ?_ ?_
        rotate_left
        ·simp only [Act.put, y1_, y2_, y3_, i64_w, i32_w]
         rfl
        refine pure_ (i := 30) (N := some 113) (v := undef) (a' := ?_) vb57_ rfl rfl (any_of HT_.out (by kernel_rfl)) (fun _ _ _ h => h) (Or.inr ⟨by rfl, rfl⟩) ?_ ?_
        rotate_left
        ·simp only [Act.put, y1_, y2_, y3_, i64_w, i32_w]
         rfl
        refine pure_ (i := 31) (N := some 114) (v := undef) (a' := ?_) vb58_ rfl rfl (any_of HT_.out (by kernel_rfl)) (fun _ _ _ h => h) (Or.inr ⟨by rfl, rfl⟩) ?_ ?_
        rotate_left
        ·simp only [Act.put, y1_, y2_, y3_, i64_w, i32_w]
         rfl
        refine pure_ (i := 32) (N := some 115) (v := ?_) (a' := ?_) vb59_ rfl rfl (any_of HT_.out (by kernel_rfl)) (fun _ _ _ h => h) (Or.inl ⟨by rfl, ?_⟩) ?_ ?_
        rotate_left
        ·intro w'
         go_simp
         with_reducible rfl
        rotate_left
        ·simp only [Act.put, y1_, y2_, y3_, i64_w, i32_w]
         rfl
        refine pure_ (i := 33) (N := some 116) (v := ?_) (a' := ?_) vb60_ rfl rfl (any_of HT_.out (by kernel_rfl)) (fun _ _ _ h => h) (Or.inl ⟨by rfl, ?_⟩) ?_ ?_
        rotate_left
        ·intro w'
         go_simp
         with_reducible rfl
        rotate_left
        ·simp only [Act.put, y1_, y2_, y3_, i64_w, i32_w]
         rfl
        refine pure_ (i := 34) (N := some 117) (v := ?_) (a' := ?_) vb61_ rfl rfl (any_of HT_.out (by kernel_rfl)) (fun _ _ _ h => h) (Or.inl ⟨by rfl, ?_⟩) ?_ ?_
        rotate_left
        ·intro w'
         go_simp
         with_reducible rfl
        rotate_left
        ·simp only [Act.put, y1_, y2_, y3_, i64_w, i32_w]
         rfl
        refine pure_ (i := 35) (N := some 118) (v := ?_) (a' := ?_) vb62_ rfl rfl (any_of HT_.out (by kernel_rfl)) (fun _ _ _ h => h) (Or.inl ⟨by rfl, ?_⟩) ?_ ?_
        rotate_left
        ·intro w'
         go_simp
         with_reducible rfl
        rotate_left
        ·simp only [Act.put, y1_, y2_, y3_, i64_w, i32_w]
         rfl
        refine pure_ (i := 36) (N := some 119) (v := ?_) (a' := ?_) vb63_ rfl rfl (any_of HT_.out (by kernel_rfl)) (fun _ _ _ h => h) (Or.inl ⟨by rfl, ?_⟩) ?_ ?_
        rotate_left
        ·intro w'
         go_simp
         with_reducible rfl
        rotate_left
        ·simp only [Act.put, y1_, y2_, y3_, i64_w, i32_w]
         rfl
        refine pure_ (i := 37) (N := some 120) (v := ?_) (a' := ?_) vb64_ rfl rfl (any_of HT_.out (by kernel_rfl)) (fun _ _ _ h => h) (Or.inl ⟨by rfl, ?_⟩) ?_ ?_
        rotate_left
        ·intro w'
         go_simp
         with_reducible rfl
        rotate_left
        ·simp only [Act.put, y1_, y2_, y3_, i64_w, i32_w]
         rfl
        refine pure_ (i := 38) (N := some 121) (v := ?_) (a' := ?_) vb65_ rfl rfl (any_of HT_.out (by kernel_rfl)) (fun _ _ _ h => h) (Or.inl ⟨by rfl, ?_⟩) ?_ ?_
        rotate_left
        ·intro w'
         go_simp
         with_reducible rfl
        rotate_left
        ·simp only [Act.put, y1_, y2_, y3_, i64_w, i32_w]
         rfl
        refine pure_ (i := 39) (N := some 122) (v := ?_) (a' := ?_) vb66_ rfl rfl (any_of HT_.out (by kernel_rfl)) (fun _ _ _ h => h) (Or.inl ⟨by rfl, ?_⟩) ?_ ?_
        rotate_left
        ·intro w'
         go_simp
         with_reducible rfl
        rotate_left
        ·simp only [Act.put, y1_, y2_, y3_, i64_w, i32_w]
         rfl
        refine pure_ (i := 40) (N := some 123) (v := ?_) (a' := ?_) vb67_ rfl rfl (any_of HT_.out (by kernel_rfl)) (fun _ _ _ h => h) (Or.inl ⟨by rfl, ?_⟩) ?_ ?_
        rotate_left
        ·intro w'
         go_simp
         with_reducible rfl
        rotate_left
        ·simp only [Act.put, y1_, y2_, y3_, i64_w, i32_w]
         rfl
        refine pure_ (i := 41) (N := some 124) (v := ?_) (a' := ?_) vb68_ rfl rfl (any_of HT_.out (by kernel_rfl)) (fun _ _ _ h => h) (Or.inl ⟨by rfl, ?_⟩) ?_ ?_
        rotate_left
        ·intro w'
         go_simp
         with_reducible rfl
        rotate_left
        ·simp only [Act.put, y1_, y2_, y3_, i64_w, i32_w]
         rfl
        refine pure_ (i := 42) (N := some 125) (v := ?_) (a' := ?_) vb69_ rfl rfl (any_of HT_.out (by kernel_rfl)) (fun _ _ _ h => h) (Or.inl ⟨by rfl, ?_⟩) ?_ ?_
        rotate_left
        ·intro w'
         go_simp
         with_reducible rfl
        rotate_left
        ·simp only [Act.put, y1_, y2_, y3_, i64_w, i32_w]
         rfl
        refine pure_ (i := 43) (N := some 126) (v := undef) (a' := ?_) vb70_ rfl rfl (any_of HT_.out (by kernel_rfl)) (fun _ _ _ h => h) (Or.inr ⟨by rfl, rfl⟩) ?_ ?_
        rotate_left
        ·simp only [Act.put, y1_, y2_, y3_, i64_w, i32_w]
         rfl
        refine pure_ (i := 44) (N := some 127) (v := undef) (a' := ?_) vb71_ rfl rfl (any_of HT_.out (by kernel_rfl)) (fun _ _ _ h => h) (Or.inr ⟨by rfl, rfl⟩) ?_ ?_
        rotate_left
        ·simp only [Act.put, y1_, y2_, y3_, i64_w, i32_w]
         rfl
        refine pure_ (i := 45) (N := some 128) (v := undef) (a' := ?_) vb72_ rfl rfl (any_of HT_.out (by kernel_rfl)) (fun _ _ _ h => h) (Or.inr ⟨by rfl, rfl⟩) ?_ ?_
        rotate_left
        ·simp only [Act.put, y1_, y2_, y3_, i64_w, i32_w]
         rfl
        refine pure_ (i := 46) (N := some 129) (v := ?_) (a' := ?_) vb73_ rfl rfl (any_of HT_.out (by kernel_rfl)) (fun _ _ _ h => h) (Or.inl ⟨by rfl, ?_⟩) ?_ ?_
        rotate_left
        ·intro w'
         go_simp
         with_reducible rfl
        rotate_left
        ·simp only [Act.put, y1_, y2_, y3_, i64_w, i32_w]
         rfl
        refine pure_ (i := 47) (N := some 130) (v := ?_) (a' := ?_) vb74_ rfl rfl (any_of HT_.out (by kernel_rfl)) (fun _ _ _ h => h) (Or.inl ⟨by rfl, ?_⟩) ?_ ?_
        rotate_left
        ·intro w'
         go_simp
         with_reducible rfl
        rotate_left
        ·simp only [Act.put, y1_, y2_, y3_, i64_w, i32_w]
         rfl
        refine done_ (done_of HT_.out (by kernel_rfl)) ?_
        try go_wp2
        go_meet
        case rel => exact ⟨_, (false), (t187), (t188), (t189), (by first | rfl | (simp; done) | (simp [*]; done)), H', ⟨by have := HK1.out; have := HJ13.out; first | omega | exact Nat.le_refl _⟩, ⟨by (with_reducible repeat (first | refine blk_drewN ?_ _ | refine blk_drew ?_ | refine blk_alloc ?_ _)); exact BK145.out⟩, ⟨by repeat (first | (with_reducible first | exact HI142.out | apply IsS66.alloc | apply IsS66.drewN | apply IsS66.drew | apply IsS66.set_0 | apply IsS66.set_1 | apply IsS66.set_2 | refine IsS66.far ?_ NB142_145.out _) | exact HI142.out)⟩, ⟨by repeat (first | (with_reducible first | exact HI143.out | apply IsS55.alloc | apply IsS55.drewN | apply IsS55.drew | apply IsS55.set_0 | apply IsS55.set_1 | apply IsS55.set_2 | refine IsS55.far ?_ NB143_145.out _) | exact HI143.out)⟩, ⟨by repeat (first | (with_reducible first | exact HB.out | apply below_alloc | apply pw_below_drewN | apply below_drew1 | refine below_set ?_ (IsS66.ge HI142.out) | refine below_set ?_ (IsS55.ge HI143.out) | refine below_set ?_ GE145.out) | exact HB.out)⟩⟩
       rw [if_pos c68] at H
       have c68b0 : decide (0 ≤ t182) = true := decide_eq_true c68
       clear c68
       have H' := Aside0.mk H
       clear H
       try go_wp2
       have BS143 := Aside0.mk (show IsS55 w _ gb143 x144000_13 x144001_13 x144002_13 from by repeat (first | (with_reducible first | exact HI143.out | apply IsS55.alloc | apply IsS55.drewN | apply IsS55.drew | apply IsS55.set_0 | apply IsS55.set_1 | apply IsS55.set_2 | refine IsS55.far ?_ NB143_145.out _) | exact HI143.out)).1
       have n0_ := Aside0.mk (blk_drew BK145.out)
       have n1_ := Aside0.mk (blk_drew BS143.out)
       have n2_ := Aside0.mk (IsS66.drew HI142.out)
       have n3_ := Aside0.mk (IsS55.drew HI143.out)
       have n4_ := Aside0.mk (below_drew1 HB.out)
       clear BK145 BS143 HI142 HI143 HB
       have BK145 := n0_
       have BS143 := n1_
       have HI142 := n2_
       have HI143 := n3_
       have HB := n4_
       clear n0_ n1_ n2_ n3_ n4_
       refine start_ (n := 48) (S := fun w' => w'.cell? ⟨gb143, 0, none⟩ = some (.int .i64 x144000_13) ∧ w'.cell? ⟨gb143, 1, none⟩ = some (.bool x144001_13) ∧ w'.cell? ⟨gb143, 2, none⟩ = some (.int .i64 x144002_13)) (ds := []) vb26_ (by kernel_rfl) rfl rfl ⟨(blk_cell BS143.out 0).trans rfl, (blk_cell BS143.out 1).trans rfl, (blk_cell BS143.out 2).trans rfl⟩ (fun hHeld => ?_); refine with_tabW countermandlaw19_TokenDoes.tab20 countermandlaw19_TokenDoes.bits20 (fun HT_ HW_ => ?_)
       generalize w51.drew = w69 at BK145 BS143 HI142 HI143 HB hHeld ⊢
       refine pure_ (i := 0) (N := some 83) (v := ?_) (a' := ?_) vb27_ rfl rfl (any_of HT_.out (by kernel_rfl)) (fun _ _ _ h => h) (Or.inl ⟨by rfl, ?_⟩) ?_ ?_
       rotate_left
       ·intro w'
        go_simp
        with_reducible rfl
       rotate_left
       ·simp only [Act.put, y1_, y2_, y3_, i64_w, i32_w]
        rfl
       refine pure_ (i := 1) (N := some 84) (v := ?_) (a' := ?_) vb28_ rfl rfl (any_of HT_.out (by kernel_rfl)) (fun _ _ _ h => h) (Or.inl ⟨by rfl, ?_⟩) ?_ ?_
       rotate_left
       ·intro w'
        go_simp
        with_reducible rfl
       rotate_left
       ·simp only [Act.put, y1_, y2_, y3_, i64_w, i32_w]
        rfl
       refine pure_ (i := 2) (N := some 85) (v := ?_) (a' := ?_) vb29_ rfl rfl (any_of HT_.out (by kernel_rfl)) (fun _ _ _ h => h) (Or.inl ⟨by rfl, ?_⟩) ?_ ?_
       rotate_left
       ·intro w'
        go_simp
        with_reducible rfl
       rotate_left
       ·simp only [Act.put, y1_, y2_, y3_, i64_w, i32_w]
        rfl
       refine pure_ (i := 3) (N := some 86) (v := ?_) (a' := ?_) vb30_ rfl rfl (any_of HT_.out (by kernel_rfl)) (fun _ _ _ h => h) (Or.inl ⟨by rfl, ?_⟩) ?_ ?_
       rotate_left
       ·intro w'
        go_simp
        with_reducible rfl
       rotate_left
       ·simp only [Act.put, y1_, y2_, y3_, i64_w, i32_w]
        rfl
       refine pure_ (i := 4) (N := some 87) (v := ?_) (a' := ?_) vb31_ rfl rfl (any_of HT_.out (by kernel_rfl)) (fun _ _ _ h => h) (Or.inl ⟨by rfl, ?_⟩) ?_ ?_
       rotate_left
       ·intro w'
        go_simp
        with_reducible rfl
       rotate_left
       ·simp only [Act.put, y1_, y2_, y3_, i64_w, i32_w]
        rfl
       refine pure_ (i := 5) (N := some 88) (v := ?_) (a' := ?_) vb32_ rfl rfl (any_of HT_.out (by kernel_rfl)) (fun _ _ _ h => h) (Or.inl ⟨by rfl, ?_⟩) ?_ ?_
       rotate_left
       ·intro w'
        go_simp
        with_reducible rfl
       rotate_left
       ·simp only [Act.put, y1_, y2_, y3_, i64_w, i32_w]
        rfl
       refine pure_ (i := 6) (N := some 89) (v := ?_) (a' := ?_) vb33_ rfl rfl (any_of HT_.out (by kernel_rfl)) (fun _ _ _ h => h) (Or.inl ⟨by rfl, ?_⟩) ?_ ?_
       rotate_left
       ·intro w'
        go_simp
        with_reducible rfl
       rotate_left
       ·simp only [Act.put, y1_, y2_, y3_, i64_w, i32_w]
        rfl
       refine take_ (i := 7) (N := some 90) (v := ?_) (a' := ?_) vb34_ rfl rfl (take_ofW HT_.out HW_.out (by kernel_rfl)) (fun _ _ _ h => h) (Or.inl ⟨by rfl, ?_⟩) hHeld ?_ ?_
       rotate_left
       ·rintro w' ⟨s0, s1, s2⟩
        go_simp
        with_reducible rfl
       rotate_left
       ·simp only [Act.put, y1_, y2_, y3_, i64_w, i32_w]
        rfl
       refine pure_ (i := 8) (N := some 91) (v := ?_) (a' := ?_) vb35_ rfl rfl (any_of HT_.out (by kernel_rfl)) (fun _ _ _ h => h) (Or.inl ⟨by rfl, ?_⟩) ?_ ?_
       rotate_left
       ·intro w'
        go_simp
        with_reducible rfl
       rotate_left
       ·simp only [Act.put, y1_, y2_, y3_, i64_w, i32_w]
        rfl
       refine pure_ (i := 9) (N := some 92) (v := ?_) (a' := ?_) vb36_ rfl rfl (any_of HT_.out (by kernel_rfl)) (fun _ _ _ h => h) (Or.inl ⟨by rfl, ?_⟩) ?_ ?_
       rotate_left
       ·intro w'
        go_simp
        with_reducible rfl
       rotate_left
       ·simp only [Act.put, y1_, y2_, y3_, i64_w, i32_w]
        rfl
       refine pure_ (i := 10) (N := some 93) (v := ?_) (a' := ?_) vb37_ rfl rfl (any_of HT_.out (by kernel_rfl)) (fun _ _ _ h => h) (Or.inl ⟨by rfl, ?_⟩) ?_ ?_
       rotate_left
       ·intro w'
        go_simp
        with_reducible rfl
       rotate_left
       ·simp only [Act.put, y1_, y2_, y3_, i64_w, i32_w]
        rfl
       refine pure_ (i := 11) (N := some 94) (v := ?_) (a' := ?_) vb38_ rfl rfl (any_of HT_.out (by kernel_rfl)) (fun _ _ _ h => h) (Or.inl ⟨by rfl, ?_⟩) ?_ ?_
       rotate_left
       ·intro w'
        go_simp
        with_reducible rfl
       rotate_left
       ·simp only [Act.put, y1_, y2_, y3_, i64_w, i32_w]
        rfl
       refine pure_ (i := 12) (N := some 95) (v := ?_) (a' := ?_) vb39_ rfl rfl (any_of HT_.out (by kernel_rfl)) (fun _ _ _ h => h) (Or.inl ⟨by rfl, ?_⟩) ?_ ?_
       rotate_left
       ·intro w'
        go_simp
        with_reducible rfl
       rotate_left
       ·simp only [Act.put, y1_, y2_, y3_, i64_w, i32_w]
        rfl
       refine pure_ (i := 13) (N := some 96) (v := ?_) (a' := ?_) vb40_ rfl rfl (any_of HT_.out (by kernel_rfl)) (fun _ _ _ h => h) (Or.inl ⟨by rfl, ?_⟩) ?_ ?_
       rotate_left
       ·intro w'
        go_simp
        with_reducible rfl
       rotate_left
       ·simp only [Act.put, y1_, y2_, y3_, i64_w, i32_w]
        rfl
       refine pure_ (i := 14) (N := some 97) (v := ?_) (a' := ?_) vb41_ rfl rfl (any_of HT_.out (by kernel_rfl)) (fun _ _ _ h => h) (Or.inl ⟨by rfl, ?_⟩) ?_ ?_
       rotate_left
       ·intro w'
        go_simp
        with_reducible rfl
       rotate_left
       ·simp only [Act.put, y1_, y2_, y3_, i64_w, i32_w]
        rfl
       refine take_ (i := 15) (N := some 98) (v := ?_) (a' := ?_) vb42_ rfl rfl (take_ofW HT_.out HW_.out (by kernel_rfl)) (fun _ _ _ h => h) (Or.inl ⟨by rfl, ?_⟩) hHeld ?_ ?_
       rotate_left
       ·rintro w' ⟨s0, s1, s2⟩
        go_simp
        with_reducible rfl
       rotate_left
       ·simp only [Act.put, y1_, y2_, y3_, i64_w, i32_w]
        rfl
       refine pure_ (i := 16) (N := some 99) (v := ?_) (a' := ?_) vb43_ rfl rfl (any_of HT_.out (by kernel_rfl)) (fun _ _ _ h => h) (Or.inl ⟨by rfl, ?_⟩) ?_ ?_
       rotate_left
       ·intro w'
        go_simp
        with_reducible rfl
       rotate_left
       ·simp only [Act.put, y1_, y2_, y3_, i64_w, i32_w]
        rfl
       refine pure_ (i := 17) (N := some 100) (v := ?_) (a' := ?_) vb44_ rfl rfl (any_of HT_.out (by kernel_rfl)) (fun _ _ _ h => h) (Or.inl ⟨by rfl, ?_⟩) ?_ ?_
       rotate_left
       ·intro w'
        go_simp
        with_reducible rfl
       rotate_left
       ·simp only [Act.put, y1_, y2_, y3_, i64_w, i32_w]
        rfl
       refine pure_ (i := 18) (N := some 101) (v := ?_) (a' := ?_) vb45_ rfl rfl (any_of HT_.out (by kernel_rfl)) (fun _ _ _ h => h) (Or.inl ⟨by rfl, ?_⟩) ?_ ?_
       rotate_left
       ·intro w'
        go_simp
        with_reducible rfl
       rotate_left
       ·simp only [Act.put, y1_, y2_, y3_, i64_w, i32_w]
        rfl
       refine pure_ (i := 19) (N := some 102) (v := ?_) (a' := ?_) vb46_ rfl rfl (any_of HT_.out (by kernel_rfl)) (fun _ _ _ h => h) (Or.inl ⟨by rfl, ?_⟩) ?_ ?_
       rotate_left
       ·intro w'
        go_simp
        with_reducible rfl
       rotate_left
       ·simp only [Act.put, y1_, y2_, y3_, i64_w, i32_w]
        rfl
       refine pure_ (i := 21) (N := some 104) (v := ?_) (a' := ?_) vb47_ rfl rfl (any_of HT_.out (by kernel_rfl)) (fun _ _ _ h => h) (Or.inl ⟨by rfl, ?_⟩) ?_ ?_
       rotate_left
       ·intro w'
        go_simp
        with_reducible rfl
       rotate_left
       ·simp only [Act.put, y1_, y2_, y3_, i64_w, i32_w]
        rfl
       refine pure_ (i := 22) (N := some 105) (v := ?_) (a' := ?_) vb48_ rfl rfl (any_of HT_.out (by kernel_rfl)) (fun _ _ _ h => h) (Or.inl ⟨by rfl, ?_⟩) ?_ ?_
       rotate_left
       ·intro w'
        go_simp
        with_reducible rfl
       rotate_left
       ·simp only [Act.put, y1_, y2_, y3_, i64_w, i32_w]
        rfl
       refine pure_ (i := 23) (N := some 106) (v := ?_) (a' := ?_) vb49_ rfl rfl (any_of HT_.out (by kernel_rfl)) (fun _ _ _ h => h) (Or.inl ⟨by rfl, ?_⟩) ?_ ?_
       rotate_left
       ·intro w'
        go_simp
        with_reducible rfl
       rotate_left
       ·simp only [Act.put, y1_, y2_, y3_, i64_w, i32_w]
        rfl
       refine take_ (i := 24) (N := some 107) (v := ?_) (a' := ?_) vb50_ rfl rfl (take_ofW HT_.out HW_.out (by kernel_rfl)) (fun _ _ _ h => h) (Or.inl ⟨by rfl, ?_⟩) hHeld ?_ ?_
       rotate_left
       ·rintro w' ⟨s0, s1, s2⟩
        go_simp
        with_reducible rfl
       rotate_left
       ·simp only [Act.put, y1_, y2_, y3_, i64_w, i32_w]
        rfl
       refine pure_ (i := 25) (N := some 108) (v := ?_) (a' := ?_) vb51_ rfl rfl (any_of HT_.out (by kernel_rfl)) (fun _ _ _ h => h) (Or.inl ⟨by rfl, ?_⟩) ?_ ?_
       rotate_left
       ·intro w'
        go_simp
        with_reducible rfl
       rotate_left
       ·simp only [Act.put, y1_, y2_, y3_, i64_w, i32_w]
        rfl
       refine one_ (i := 20) (N := some 103) vb52_ rfl rfl (one_of HT_.out (by kernel_rfl)) (by decide) (fun K hK => ?_)
       refine goes_ Try.func31 (by kernel_rfl) rfl #[.pointer (some ⟨g142, 0, none⟩)] (by rfl) rfl rfl (by (try simp only [List.map_toArray, List.map_cons, List.map_nil]); first | done | rfl | (simp only [List.length_drop, List.length_take]; rfl)) ?_
       with_reducible refine (token_Token_Soft.calls g142 t183 t184 t185 false t187 t188 t189 w _ ?side1 ?side2 A55.out).mono ?_
       (case side1 => repeat (first | (with_reducible first | exact HI142.out | apply IsS66.alloc | apply IsS66.drewN | apply IsS66.drew | apply IsS66.set_0 | apply IsS66.set_1 | apply IsS66.set_2 | refine IsS66.far ?_ NB142_145.out _ | refine IsS66.far ?_ NB142_143.out _) | exact HI142.out))
       (case side2 => repeat (first | (with_reducible first | exact HB.out | apply below_alloc | apply pw_below_drewN | apply below_drew1 | refine below_set ?_ (IsS66.ge HI142.out) | refine below_set ?_ (IsS55.ge HI143.out) | refine below_set ?_ GE145.out | refine below_set ?_ GE143.out) | exact HB.out))
       rintro e w70 ⟨rfl, hi, hb, hk⟩
       refine ⟨_, rfl, ?_⟩
       have n0_ := Aside0.mk (KeepBut.blk hk (g' := gb145) (o := .cells #[.int .i64 ((rd_T49 l0 x25_1).f0), .int .i64 ((rd_T49 l0 x25_1).f1), .bool ((rd_T49 l0 x25_1).f2)] 49 (0, 0)) (by (with_reducible repeat (first | refine blk_drewN ?_ _ | refine blk_drew ?_ | refine blk_alloc ?_ _)); exact BK145.out) NB145_142.out (by simp))
       have n1_ := Aside0.mk ((show IsS55 w w70 gb143 x144000_13 x144001_13 x144002_13 from ⟨KeepBut.blk hk (show IsS55 w _ gb143 x144000_13 x144001_13 x144002_13 from by repeat (first | (with_reducible first | exact HI143.out | apply IsS55.alloc | apply IsS55.drewN | apply IsS55.drew | apply IsS55.set_0 | apply IsS55.set_1 | apply IsS55.set_2 | refine IsS55.far ?_ NB143_145.out _ | refine IsS55.far ?_ NB143_143.out _) | exact HI143.out)).1 NB143_142.out (by simp), (show IsS55 w _ gb143 x144000_13 x144001_13 x144002_13 from by repeat (first | (with_reducible first | exact HI143.out | apply IsS55.alloc | apply IsS55.drewN | apply IsS55.drew | apply IsS55.set_0 | apply IsS55.set_1 | apply IsS55.set_2 | refine IsS55.far ?_ NB143_145.out _ | refine IsS55.far ?_ NB143_143.out _) | exact HI143.out)).2⟩))
       have n2_ := Aside0.mk (KeepBut.blk hk (g' := gb143) (o := .cells #[.int .i64 x144000_13, .bool x144001_13, .int .i64 x144002_13] 55 (0, 0)) (by (with_reducible repeat (first | refine blk_drewN ?_ _ | refine blk_drew ?_ | refine blk_alloc ?_ _)); exact BS143.out) NB143_142.out (by simp))
       have n3_ := Aside0.mk (hb)
       have n4_ := Aside0.mk (hi)
       clear BK145 HI143 BS143 HB HI142
       have BK145 := n0_
       have HI143 := n1_
       have BS143 := n2_
       have HB := n3_
       have HI142 := n4_
       clear n0_ n1_ n2_ n3_ n4_
       (try clear hb); (try clear hb2)
       (try clear hk); (try clear hi)
       refine hK.out _ _ ⟨(blk_cell BS143.out 0).trans rfl, (blk_cell BS143.out 1).trans rfl, (blk_cell BS143.out 2).trans rfl⟩ (fun hHeld => ?_)
       clear hK K
       refine norm_ (a' := ?_) ?_ ?_
       rotate_left
       ·show Act.put _ (some 103) _ = _
        simp only [Act.put, y1_, y2_, y3_, i64_w, i32_w]
        rfl
       refine pure_ (i := 26) (N := some 109) (v := ?_) (a' := ?_) vb53_ rfl rfl (any_of HT_.out (by kernel_rfl)) (fun _ _ _ h => h) (Or.inl ⟨by rfl, ?_⟩) ?_ ?_
       rotate_left
       ·intro w'
        go_simp
        with_reducible rfl
       rotate_left
       ·simp only [Act.put, y1_, y2_, y3_, i64_w, i32_w]
        rfl
       refine pure_ (i := 27) (N := some 110) (v := undef) (a' := ?_) vb54_ rfl rfl (any_of HT_.out (by kernel_rfl)) (fun _ _ _ h => h) (Or.inr ⟨by rfl, rfl⟩) ?_ ?_
       rotate_left
       ·simp only [Act.put, y1_, y2_, y3_, i64_w, i32_w]
        rfl
       refine pure_ (i := 28) (N := some 111) (v := undef) (a' := ?_) vb55_ rfl rfl (any_of HT_.out (by kernel_rfl)) (fun _ _ _ h => h) (Or.inr ⟨by rfl, rfl⟩) ?_ ?_
       rotate_left
       ·simp only [Act.put, y1_, y2_, y3_, i64_w, i32_w]
        rfl
       refine pure_ (i := 29) (N := some 112) (v := undef) (a' := ?_) vb56_ rfl rfl (any_of HT_.out (by kernel_rfl)) (fun _ _ _ h => h) (Or.inr ⟨by rfl, rfl⟩) ?_ ?_
       rotate_left
       ·simp only [Act.put, y1_, y2_, y3_, i64_w, i32_w]
        rfl
       refine pure_ (i := 30) (N := some 113) (v := undef) (a' := ?_) vb57_ rfl rfl (any_of HT_.out (by kernel_rfl)) (fun _ _ _ h => h) (Or.inr ⟨by rfl, rfl⟩) ?_ ?_
       rotate_left
       ·simp only [Act.put, y1_, y2_, y3_, i64_w, i32_w]
        rfl
       refine pure_ (i := 31) (N := some 114) (v := undef) (a' := ?_) vb58_ rfl rfl (any_of HT_.out (by kernel_rfl)) (fun _ _ _ h => h) (Or.inr ⟨by rfl, rfl⟩) ?_ ?_
       rotate_left
       ·simp only [Act.put, y1_, y2_, y3_, i64_w, i32_w]
        rfl
       refine pure_ (i := 32) (N := some 115) (v := ?_) (a' := ?_) vb59_ rfl rfl (any_of HT_.out (by kernel_rfl)) (fun _ _ _ h => h) (Or.inl ⟨by rfl, ?_⟩) ?_ ?_
       rotate_left
       ·intro w'
        go_simp
        with_reducible rfl
       rotate_left
       ·simp only [Act.put, y1_, y2_, y3_, i64_w, i32_w]
        rfl
       refine pure_ (i := 33) (N := some 116) (v := ?_) (a' := ?_) vb60_ rfl rfl (any_of HT_.out (by kernel_rfl)) (fun _ _ _ h => h) (Or.inl ⟨by rfl, ?_⟩) ?_ ?_
       rotate_left
       ·intro w'
        go_simp
        with_reducible rfl
       rotate_left
       ·simp only [Act.put, y1_, y2_, y3_, i64_w, i32_w]
        rfl
       refine pure_ (i := 34) (N := some 117) (v := ?_) (a' := ?_) vb61_ rfl rfl (any_of HT_.out (by kernel_rfl)) (fun _ _ _ h => h) (Or.inl ⟨by rfl, ?_⟩) ?_ ?_
       rotate_left
       ·intro w'
        go_simp
        with_reducible rfl
       rotate_left
       ·simp only [Act.put, y1_, y2_, y3_, i64_w, i32_w]
        rfl
       refine pure_ (i := 35) (N := some 118) (v := ?_) (a' := ?_) vb62_ rfl rfl (any_of HT_.out (by kernel_rfl)) (fun _ _ _ h => h) (Or.inl ⟨by rfl, ?_⟩) ?_ ?_
       rotate_left
       ·intro w'
        go_simp
        with_reducible rfl
       rotate_left
       ·simp only [Act.put, y1_, y2_, y3_, i64_w, i32_w]
        rfl
       refine pure_ (i := 36) (N := some 119) (v := ?_) (a' := ?_) vb63_ rfl rfl (any_of HT_.out (by kernel_rfl)) (fun _ _ _ h => h) (Or.inl ⟨by rfl, ?_⟩) ?_ ?_
       rotate_left
       ·intro w'
        go_simp
        with_reducible rfl
       rotate_left
       ·simp only [Act.put, y1_, y2_, y3_, i64_w, i32_w]
        rfl
       refine pure_ (i := 37) (N := some 120) (v := ?_) (a' := ?_) vb64_ rfl rfl (any_of HT_.out (by kernel_rfl)) (fun _ _ _ h => h) (Or.inl ⟨by rfl, ?_⟩) ?_ ?_
       rotate_left
       ·intro w'
        go_simp
        with_reducible rfl
       rotate_left
       ·simp only [Act.put, y1_, y2_, y3_, i64_w, i32_w]
        rfl
       refine pure_ (i := 38) (N := some 121) (v := ?_) (a' := ?_) vb65_ rfl rfl (any_of HT_.out (by kernel_rfl)) (fun _ _ _ h => h) (Or.inl ⟨by rfl, ?_⟩) ?_ ?_
       rotate_left
       ·intro w'
        go_simp
        with_reducible rfl
       rotate_left
       ·simp only [Act.put, y1_, y2_, y3_, i64_w, i32_w]
        rfl
       refine pure_ (i := 39) (N := some 122) (v := ?_) (a' := ?_) vb66_ rfl rfl (any_of HT_.out (by kernel_rfl)) (fun _ _ _ h => h) (Or.inl ⟨by rfl, ?_⟩) ?_ ?_
       rotate_left
       ·intro w'
        go_simp
        with_reducible rfl
       rotate_left
       ·simp only [Act.put, y1_, y2_, y3_, i64_w, i32_w]
        rfl
       refine pure_ (i := 40) (N := some 123) (v := ?_) (a' := ?_) vb67_ rfl rfl (any_of HT_.out (by kernel_rfl)) (fun _ _ _ h => h) (Or.inl ⟨by rfl, ?_⟩) ?_ ?_
       rotate_left
       ·intro w'
        go_simp
        with_reducible rfl
       rotate_left
       ·simp only [Act.put, y1_, y2_, y3_, i64_w, i32_w]
        rfl
       refine pure_ (i := 41) (N := some 124) (v := ?_) (a' := ?_) vb68_ rfl rfl (any_of HT_.out (by kernel_rfl)) (fun _ _ _ h => h) (Or.inl ⟨by rfl, ?_⟩) ?_ ?_
       rotate_left
       ·intro w'
        go_simp
        with_reducible rfl
       rotate_left
       ·simp only [Act.put, y1_, y2_, y3_, i64_w, i32_w]
        rfl
       refine pure_ (i := 42) (N := some 125) (v := ?_) (a' := ?_) vb69_ rfl rfl (any_of HT_.out (by kernel_rfl)) (fun _ _ _ h => h) (Or.inl ⟨by rfl, ?_⟩) ?_ ?_
       rotate_left
       ·intro w'
        go_simp
        with_reducible rfl
       rotate_left
       ·simp only [Act.put, y1_, y2_, y3_, i64_w, i32_w]
        rfl
       refine pure_ (i := 43) (N := some 126) (v := ?_) (a' := ?_) vb70_ rfl rfl (any_of HT_.out (by kernel_rfl)) (fun _ _ _ h => h) (Or.inl ⟨by rfl, ?_⟩) ?_ ?_
       rotate_left
       ·intro w'
        go_simp
        with_reducible rfl
       rotate_left
       ·simp only [Act.put, y1_, y2_, y3_, i64_w, i32_w]
        rfl
       refine pure_ (i := 44) (N := some 127) (v := ?_) (a' := ?_) vb71_ rfl rfl (any_of HT_.out (by kernel_rfl)) (fun _ _ _ h => h) (Or.inl ⟨by rfl, ?_⟩) ?_ ?_
       rotate_left
       ·intro w'
        go_simp
        with_reducible rfl
       rotate_left
       ·simp only [Act.put, y1_, y2_, y3_, i64_w, i32_w]
        rfl
       refine pure_ (i := 45) (N := some 128) (v := ?_) (a' := ?_) vb72_ rfl rfl (any_of HT_.out (by kernel_rfl)) (fun _ _ _ h => h) (Or.inl ⟨by rfl, ?_⟩) ?_ ?_
       rotate_left
       ·intro w'
        go_simp
        with_reducible rfl
       rotate_left
       ·simp only [Act.put, y1_, y2_, y3_, i64_w, i32_w]
        rfl
       refine pure_ (i := 46) (N := some 129) (v := ?_) (a' := ?_) vb73_ rfl rfl (any_of HT_.out (by kernel_rfl)) (fun _ _ _ h => h) (Or.inl ⟨by rfl, ?_⟩) ?_ ?_
       rotate_left
       ·intro w'
        go_simp
        with_reducible rfl
       rotate_left
       ·simp only [Act.put, y1_, y2_, y3_, i64_w, i32_w]
        rfl
       refine pure_ (i := 47) (N := some 130) (v := ?_) (a' := ?_) vb74_ rfl rfl (any_of HT_.out (by kernel_rfl)) (fun _ _ _ h => h) (Or.inl ⟨by rfl, ?_⟩) ?_ ?_
       rotate_left
       ·intro w'
        go_simp
        with_reducible rfl
       rotate_left
       ·simp only [Act.put, y1_, y2_, y3_, i64_w, i32_w]
        rfl
       refine done_ (done_of HT_.out (by kernel_rfl)) ?_
       try go_wp2
       go_meet
       case rel => exact ⟨_, ((t178 != t182)), (t187), (t188), (t189), (by first | rfl | (simp; done) | (simp [*]; done)), H', ⟨by have := HK1.out; have := HJ13.out; first | omega | exact Nat.le_refl _⟩, ⟨by (with_reducible repeat (first | refine blk_drewN ?_ _ | refine blk_drew ?_ | refine blk_alloc ?_ _)); exact BK145.out⟩, ⟨by repeat (first | (with_reducible first | exact HI142.out | apply IsS66.alloc | apply IsS66.drewN | apply IsS66.drew | apply IsS66.set_0 | apply IsS66.set_1 | apply IsS66.set_2 | refine IsS66.far ?_ NB142_145.out _) | exact HI142.out)⟩, ⟨by repeat (first | (with_reducible first | exact HI143.out | apply IsS55.alloc | apply IsS55.drewN | apply IsS55.drew | apply IsS55.set_0 | apply IsS55.set_1 | apply IsS55.set_2 | refine IsS55.far ?_ NB143_145.out _) | exact HI143.out)⟩, ⟨by repeat (first | (with_reducible first | exact HB.out | apply below_alloc | apply pw_below_drewN | apply below_drew1 | refine below_set ?_ (IsS66.ge HI142.out) | refine below_set ?_ (IsS55.ge HI143.out) | refine below_set ?_ GE145.out) | exact HB.out)⟩⟩
      rw [if_pos c56] at H
      have c56b0 : decide (0 ≤ x144000_13) = true := decide_eq_true c56
      clear c56
      by_cases c57 : t186 = (!x144001_13)
      rotate_left
      ·rw [if_neg c57] at H
       have c57b0 : (t186 == (!x144001_13)) = false := beq_eq_false_iff_ne.mpr c57
       have c57b1 : (t186 != (!x144001_13)) = true := bne_iff_ne.mpr c57
       exact absurd ((countermandlaw19_TokenDoes.j2_false H).symm.trans hrT) (by decide)
      rw [if_pos c57] at H
      have c57b0 : (t186 == (!x144001_13)) = true := beq_iff_eq.mpr c57
      have c57b1 : (t186 != (!x144001_13)) = false := bne_eq_false_iff_eq.mpr c57
      clear c57
      by_cases c58 : t178 ≥ 0
      rotate_left
      ·rw [if_neg c58] at H
       have c58b0 : decide (0 ≤ t178) = false := decide_eq_false c58
       clear c58
       have H' := Aside0.mk H
       clear H
       try go_wp2
       have BS143 := Aside0.mk (show IsS55 w _ gb143 x144000_13 x144001_13 x144002_13 from by repeat (first | (with_reducible first | exact HI143.out | apply IsS55.alloc | apply IsS55.drewN | apply IsS55.drew | apply IsS55.set_0 | apply IsS55.set_1 | apply IsS55.set_2 | refine IsS55.far ?_ NB143_145.out _) | exact HI143.out)).1
       have n0_ := Aside0.mk (blk_drew BK145.out)
       have n1_ := Aside0.mk (blk_drew BS143.out)
       have n2_ := Aside0.mk (IsS66.drew HI142.out)
       have n3_ := Aside0.mk (IsS55.drew HI143.out)
       have n4_ := Aside0.mk (below_drew1 HB.out)
       clear BK145 BS143 HI142 HI143 HB
       have BK145 := n0_
       have BS143 := n1_
       have HI142 := n2_
       have HI143 := n3_
       have HB := n4_
       clear n0_ n1_ n2_ n3_ n4_
       refine start_ (n := 48) (S := fun w' => w'.cell? ⟨gb143, 0, none⟩ = some (.int .i64 x144000_13) ∧ w'.cell? ⟨gb143, 1, none⟩ = some (.bool x144001_13) ∧ w'.cell? ⟨gb143, 2, none⟩ = some (.int .i64 x144002_13)) (ds := []) vb26_ (by kernel_rfl) rfl rfl ⟨(blk_cell BS143.out 0).trans rfl, (blk_cell BS143.out 1).trans rfl, (blk_cell BS143.out 2).trans rfl⟩ (fun hHeld => ?_); refine with_tabW countermandlaw19_TokenDoes.tab20 countermandlaw19_TokenDoes.bits20 (fun HT_ HW_ => ?_)
       generalize w51.drew = w64 at BK145 BS143 HI142 HI143 HB hHeld ⊢
       refine pure_ (i := 0) (N := some 83) (v := ?_) (a' := ?_) vb27_ rfl rfl (any_of HT_.out (by kernel_rfl)) (fun _ _ _ h => h) (Or.inl ⟨by rfl, ?_⟩) ?_ ?_
       rotate_left
       ·intro w'
        go_simp
        with_reducible rfl
       rotate_left
       ·simp only [Act.put, y1_, y2_, y3_, i64_w, i32_w]
        rfl
       refine pure_ (i := 1) (N := some 84) (v := ?_) (a' := ?_) vb28_ rfl rfl (any_of HT_.out (by kernel_rfl)) (fun _ _ _ h => h) (Or.inl ⟨by rfl, ?_⟩) ?_ ?_
       rotate_left
       ·intro w'
        go_simp
        with_reducible rfl
       rotate_left
       ·simp only [Act.put, y1_, y2_, y3_, i64_w, i32_w]
        rfl
       refine pure_ (i := 2) (N := some 85) (v := ?_) (a' := ?_) vb29_ rfl rfl (any_of HT_.out (by kernel_rfl)) (fun _ _ _ h => h) (Or.inl ⟨by rfl, ?_⟩) ?_ ?_
       rotate_left
       ·intro w'
        go_simp
        with_reducible rfl
       rotate_left
       ·simp only [Act.put, y1_, y2_, y3_, i64_w, i32_w]
        rfl
       refine pure_ (i := 3) (N := some 86) (v := ?_) (a' := ?_) vb30_ rfl rfl (any_of HT_.out (by kernel_rfl)) (fun _ _ _ h => h) (Or.inl ⟨by rfl, ?_⟩) ?_ ?_
       rotate_left
       ·intro w'
        go_simp
        with_reducible rfl
       rotate_left
       ·simp only [Act.put, y1_, y2_, y3_, i64_w, i32_w]
        rfl
       refine pure_ (i := 4) (N := some 87) (v := ?_) (a' := ?_) vb31_ rfl rfl (any_of HT_.out (by kernel_rfl)) (fun _ _ _ h => h) (Or.inl ⟨by rfl, ?_⟩) ?_ ?_
       rotate_left
       ·intro w'
        go_simp
        with_reducible rfl
       rotate_left
       ·simp only [Act.put, y1_, y2_, y3_, i64_w, i32_w]
        rfl
       refine pure_ (i := 5) (N := some 88) (v := ?_) (a' := ?_) vb32_ rfl rfl (any_of HT_.out (by kernel_rfl)) (fun _ _ _ h => h) (Or.inl ⟨by rfl, ?_⟩) ?_ ?_
       rotate_left
       ·intro w'
        go_simp
        with_reducible rfl
       rotate_left
       ·simp only [Act.put, y1_, y2_, y3_, i64_w, i32_w]
        rfl
       refine pure_ (i := 6) (N := some 89) (v := ?_) (a' := ?_) vb33_ rfl rfl (any_of HT_.out (by kernel_rfl)) (fun _ _ _ h => h) (Or.inl ⟨by rfl, ?_⟩) ?_ ?_
       rotate_left
       ·intro w'
        go_simp
        with_reducible rfl
       rotate_left
       ·simp only [Act.put, y1_, y2_, y3_, i64_w, i32_w]
        rfl
       refine take_ (i := 7) (N := some 90) (v := ?_) (a' := ?_) vb34_ rfl rfl (take_ofW HT_.out HW_.out (by kernel_rfl)) (fun _ _ _ h => h) (Or.inl ⟨by rfl, ?_⟩) hHeld ?_ ?_
       rotate_left
       ·rintro w' ⟨s0, s1, s2⟩
        go_simp
        with_reducible rfl
       rotate_left
       ·simp only [Act.put, y1_, y2_, y3_, i64_w, i32_w]
        rfl
       refine pure_ (i := 8) (N := some 91) (v := ?_) (a' := ?_) vb35_ rfl rfl (any_of HT_.out (by kernel_rfl)) (fun _ _ _ h => h) (Or.inl ⟨by rfl, ?_⟩) ?_ ?_
       rotate_left
       ·intro w'
        go_simp
        with_reducible rfl
       rotate_left
       ·simp only [Act.put, y1_, y2_, y3_, i64_w, i32_w]
        rfl
       refine pure_ (i := 9) (N := some 92) (v := ?_) (a' := ?_) vb36_ rfl rfl (any_of HT_.out (by kernel_rfl)) (fun _ _ _ h => h) (Or.inl ⟨by rfl, ?_⟩) ?_ ?_
       rotate_left
       ·intro w'
        go_simp
        with_reducible rfl
       rotate_left
       ·simp only [Act.put, y1_, y2_, y3_, i64_w, i32_w]
        rfl
       refine pure_ (i := 10) (N := some 93) (v := ?_) (a' := ?_) vb37_ rfl rfl (any_of HT_.out (by kernel_rfl)) (fun _ _ _ h => h) (Or.inl ⟨by rfl, ?_⟩) ?_ ?_
       rotate_left
       ·intro w'
        go_simp
        with_reducible rfl
       rotate_left
       ·simp only [Act.put, y1_, y2_, y3_, i64_w, i32_w]
        rfl
       refine pure_ (i := 11) (N := some 94) (v := ?_) (a' := ?_) vb38_ rfl rfl (any_of HT_.out (by kernel_rfl)) (fun _ _ _ h => h) (Or.inl ⟨by rfl, ?_⟩) ?_ ?_
       rotate_left
       ·intro w'
        go_simp
        with_reducible rfl
       rotate_left
       ·simp only [Act.put, y1_, y2_, y3_, i64_w, i32_w]
        rfl
       refine pure_ (i := 12) (N := some 95) (v := ?_) (a' := ?_) vb39_ rfl rfl (any_of HT_.out (by kernel_rfl)) (fun _ _ _ h => h) (Or.inl ⟨by rfl, ?_⟩) ?_ ?_
       rotate_left
       ·intro w'
        go_simp
        with_reducible rfl
       rotate_left
       ·simp only [Act.put, y1_, y2_, y3_, i64_w, i32_w]
        rfl
       refine pure_ (i := 13) (N := some 96) (v := ?_) (a' := ?_) vb40_ rfl rfl (any_of HT_.out (by kernel_rfl)) (fun _ _ _ h => h) (Or.inl ⟨by rfl, ?_⟩) ?_ ?_
       rotate_left
       ·intro w'
        go_simp
        with_reducible rfl
       rotate_left
       ·simp only [Act.put, y1_, y2_, y3_, i64_w, i32_w]
        rfl
       refine pure_ (i := 14) (N := some 97) (v := ?_) (a' := ?_) vb41_ rfl rfl (any_of HT_.out (by kernel_rfl)) (fun _ _ _ h => h) (Or.inl ⟨by rfl, ?_⟩) ?_ ?_
       rotate_left
       ·intro w'
        go_simp
        with_reducible rfl
       rotate_left
       ·simp only [Act.put, y1_, y2_, y3_, i64_w, i32_w]
        rfl
       refine take_ (i := 15) (N := some 98) (v := ?_) (a' := ?_) vb42_ rfl rfl (take_ofW HT_.out HW_.out (by kernel_rfl)) (fun _ _ _ h => h) (Or.inl ⟨by rfl, ?_⟩) hHeld ?_ ?_
       rotate_left
       ·rintro w' ⟨s0, s1, s2⟩
        go_simp
        with_reducible rfl
       rotate_left
       ·simp only [Act.put, y1_, y2_, y3_, i64_w, i32_w]
        rfl
       refine pure_ (i := 16) (N := some 99) (v := ?_) (a' := ?_) vb43_ rfl rfl (any_of HT_.out (by kernel_rfl)) (fun _ _ _ h => h) (Or.inl ⟨by rfl, ?_⟩) ?_ ?_
       rotate_left
       ·intro w'
        go_simp
        with_reducible rfl
       rotate_left
       ·simp only [Act.put, y1_, y2_, y3_, i64_w, i32_w]
        rfl
       refine pure_ (i := 17) (N := some 100) (v := ?_) (a' := ?_) vb44_ rfl rfl (any_of HT_.out (by kernel_rfl)) (fun _ _ _ h => h) (Or.inl ⟨by rfl, ?_⟩) ?_ ?_
       rotate_left
       ·intro w'
        go_simp
        with_reducible rfl
       rotate_left
       ·simp only [Act.put, y1_, y2_, y3_, i64_w, i32_w]
        rfl
       refine pure_ (i := 18) (N := some 101) (v := ?_) (a' := ?_) vb45_ rfl rfl (any_of HT_.out (by kernel_rfl)) (fun _ _ _ h => h) (Or.inl ⟨by rfl, ?_⟩) ?_ ?_
       rotate_left
       ·intro w'
        go_simp
        with_reducible rfl
       rotate_left
       ·simp only [Act.put, y1_, y2_, y3_, i64_w, i32_w]
        rfl
       refine pure_ (i := 19) (N := some 102) (v := ?_) (a' := ?_) vb46_ rfl rfl (any_of HT_.out (by kernel_rfl)) (fun _ _ _ h => h) (Or.inl ⟨by rfl, ?_⟩) ?_ ?_
       rotate_left
       ·intro w'
        go_simp
        with_reducible rfl
       rotate_left
       ·simp only [Act.put, y1_, y2_, y3_, i64_w, i32_w]
        rfl
       refine pure_ (i := 21) (N := some 104) (v := ?_) (a' := ?_) vb47_ rfl rfl (any_of HT_.out (by kernel_rfl)) (fun _ _ _ h => h) (Or.inl ⟨by rfl, ?_⟩) ?_ ?_
       rotate_left
       ·intro w'
        go_simp
        with_reducible rfl
       rotate_left
       ·simp only [Act.put, y1_, y2_, y3_, i64_w, i32_w]
        rfl
       refine pure_ (i := 22) (N := some 105) (v := ?_) (a' := ?_) vb48_ rfl rfl (any_of HT_.out (by kernel_rfl)) (fun _ _ _ h => h) (Or.inl ⟨by rfl, ?_⟩) ?_ ?_
       rotate_left
       ·intro w'
        go_simp
        with_reducible rfl
       rotate_left
       ·simp only [Act.put, y1_, y2_, y3_, i64_w, i32_w]
        rfl
       refine pure_ (i := 23) (N := some 106) (v := ?_) (a' := ?_) vb49_ rfl rfl (any_of HT_.out (by kernel_rfl)) (fun _ _ _ h => h) (Or.inl ⟨by rfl, ?_⟩) ?_ ?_
       rotate_left
       ·intro w'
        go_simp
        with_reducible rfl
       rotate_left
       ·simp only [Act.put, y1_, y2_, y3_, i64_w, i32_w]
        rfl
       refine take_ (i := 24) (N := some 107) (v := ?_) (a' := ?_) vb50_ rfl rfl (take_ofW HT_.out HW_.out (by kernel_rfl)) (fun _ _ _ h => h) (Or.inl ⟨by rfl, ?_⟩) hHeld ?_ ?_
       rotate_left
       ·rintro w' ⟨s0, s1, s2⟩
        go_simp
        with_reducible rfl
       rotate_left
       ·simp only [Act.put, y1_, y2_, y3_, i64_w, i32_w]
        rfl
       refine pure_ (i := 25) (N := some 108) (v := ?_) (a' := ?_) vb51_ rfl rfl (any_of HT_.out (by kernel_rfl)) (fun _ _ _ h => h) (Or.inl ⟨by rfl, ?_⟩) ?_ ?_
       rotate_left
       ·intro w'
        go_simp
        with_reducible rfl
       rotate_left
       ·simp only [Act.put, y1_, y2_, y3_, i64_w, i32_w]
        rfl
       refine one_ (i := 20) (N := some 103) vb52_ rfl rfl (one_of HT_.out (by kernel_rfl)) (by decide) (fun K hK => ?_)
       refine goes_ Try.func31 (by kernel_rfl) rfl #[.pointer (some ⟨g142, 0, none⟩)] (by rfl) rfl rfl (by (try simp only [List.map_toArray, List.map_cons, List.map_nil]); first | done | rfl | (simp only [List.length_drop, List.length_take]; rfl)) ?_
       with_reducible refine (token_Token_Soft.calls g142 t183 t184 t185 t186 t187 t188 t189 w _ ?side1 ?side2 A55.out).mono ?_
       (case side1 => repeat (first | (with_reducible first | exact HI142.out | apply IsS66.alloc | apply IsS66.drewN | apply IsS66.drew | apply IsS66.set_0 | apply IsS66.set_1 | apply IsS66.set_2 | refine IsS66.far ?_ NB142_145.out _ | refine IsS66.far ?_ NB142_143.out _) | exact HI142.out))
       (case side2 => repeat (first | (with_reducible first | exact HB.out | apply below_alloc | apply pw_below_drewN | apply below_drew1 | refine below_set ?_ (IsS66.ge HI142.out) | refine below_set ?_ (IsS55.ge HI143.out) | refine below_set ?_ GE145.out | refine below_set ?_ GE143.out) | exact HB.out))
       rintro e w65 ⟨rfl, hi, hb, hk⟩
       refine ⟨_, rfl, ?_⟩
       have n0_ := Aside0.mk (KeepBut.blk hk (g' := gb145) (o := .cells #[.int .i64 ((rd_T49 l0 x25_1).f0), .int .i64 ((rd_T49 l0 x25_1).f1), .bool ((rd_T49 l0 x25_1).f2)] 49 (0, 0)) (by (with_reducible repeat (first | refine blk_drewN ?_ _ | refine blk_drew ?_ | refine blk_alloc ?_ _)); exact BK145.out) NB145_142.out (by simp))
       have n1_ := Aside0.mk ((show IsS55 w w65 gb143 x144000_13 x144001_13 x144002_13 from ⟨KeepBut.blk hk (show IsS55 w _ gb143 x144000_13 x144001_13 x144002_13 from by repeat (first | (with_reducible first | exact HI143.out | apply IsS55.alloc | apply IsS55.drewN | apply IsS55.drew | apply IsS55.set_0 | apply IsS55.set_1 | apply IsS55.set_2 | refine IsS55.far ?_ NB143_145.out _ | refine IsS55.far ?_ NB143_143.out _) | exact HI143.out)).1 NB143_142.out (by simp), (show IsS55 w _ gb143 x144000_13 x144001_13 x144002_13 from by repeat (first | (with_reducible first | exact HI143.out | apply IsS55.alloc | apply IsS55.drewN | apply IsS55.drew | apply IsS55.set_0 | apply IsS55.set_1 | apply IsS55.set_2 | refine IsS55.far ?_ NB143_145.out _ | refine IsS55.far ?_ NB143_143.out _) | exact HI143.out)).2⟩))
       have n2_ := Aside0.mk (KeepBut.blk hk (g' := gb143) (o := .cells #[.int .i64 x144000_13, .bool x144001_13, .int .i64 x144002_13] 55 (0, 0)) (by (with_reducible repeat (first | refine blk_drewN ?_ _ | refine blk_drew ?_ | refine blk_alloc ?_ _)); exact BS143.out) NB143_142.out (by simp))
       have n3_ := Aside0.mk (hb)
       have n4_ := Aside0.mk (hi)
       clear BK145 HI143 BS143 HB HI142
       have BK145 := n0_
       have HI143 := n1_
       have BS143 := n2_
       have HB := n3_
       have HI142 := n4_
       clear n0_ n1_ n2_ n3_ n4_
       (try clear hb); (try clear hb2)
       (try clear hk); (try clear hi)
       refine hK.out _ _ ⟨(blk_cell BS143.out 0).trans rfl, (blk_cell BS143.out 1).trans rfl, (blk_cell BS143.out 2).trans rfl⟩ (fun hHeld => ?_)
       clear hK K
       refine norm_ (a' := ?_) ?_ ?_
       rotate_left
       ·show Act.put _ (some 103) _ = _
        simp only [Act.put, y1_, y2_, y3_, i64_w, i32_w]
        rfl
       refine pure_ (i := 26) (N := some 109) (v := ?_) (a' := ?_) vb53_ rfl rfl (any_of HT_.out (by kernel_rfl)) (fun _ _ _ h => h) (Or.inl ⟨by rfl, ?_⟩) ?_ ?_
       rotate_left
       ·intro w'
        go_simp
        with_reducible rfl
       rotate_left
       ·simp only [Act.put, y1_, y2_, y3_, i64_w, i32_w]
        rfl
       refine pure_ (i := 27) (N := some 110) (v := ?_) (a' := ?_) vb54_ rfl rfl (any_of HT_.out (by kernel_rfl)) (fun _ _ _ h => h) (Or.inl ⟨by rfl, ?_⟩) ?_ ?_
       rotate_left
       ·intro w'
        go_simp
        with_reducible rfl
       rotate_left
       ·simp only [Act.put, y1_, y2_, y3_, i64_w, i32_w]
        rfl
       refine pure_ (i := 28) (N := some 111) (v := ?_) (a' := ?_) vb55_ rfl rfl (any_of HT_.out (by kernel_rfl)) (fun _ _ _ h => h) (Or.inl ⟨by rfl, ?_⟩) ?_ ?_
       rotate_left
       ·intro w'
        go_simp
        with_reducible rfl
       rotate_left
       ·simp only [Act.put, y1_, y2_, y3_, i64_w, i32_w]
        rfl
       refine pure_ (i := 29) (N := some 112) (v := ?_) (a' := ?_) vb56_ rfl rfl (any_of HT_.out (by kernel_rfl)) (fun _ _ _ h => h) (Or.inl ⟨by rfl, ?_⟩) ?_ ?_
       rotate_left
       ·intro w'
        go_simp
        with_reducible rfl
       rotate_left
       ·simp only [Act.put, y1_, y2_, y3_, i64_w, i32_w]
        rfl
       refine take_ (i := 30) (N := some 113) (v := ?_) (a' := ?_) vb57_ rfl rfl (take_ofW HT_.out HW_.out (by kernel_rfl)) (fun _ _ _ h => h) (Or.inl ⟨by rfl, ?_⟩) hHeld ?_ ?_
       rotate_left
       ·rintro w' ⟨s0, s1, s2⟩
        go_simp
        with_reducible rfl
       rotate_left
       ·simp only [Act.put, y1_, y2_, y3_, i64_w, i32_w]
        rfl
       refine pure_ (i := 31) (N := some 114) (v := ?_) (a' := ?_) vb58_ rfl rfl (any_of HT_.out (by kernel_rfl)) (fun _ _ _ h => h) (Or.inl ⟨by rfl, ?_⟩) ?_ ?_
       rotate_left
       ·intro w'
        go_simp
        with_reducible rfl
       rotate_left
       ·simp only [Act.put, y1_, y2_, y3_, i64_w, i32_w]
        rfl
       refine pure_ (i := 32) (N := some 115) (v := ?_) (a' := ?_) vb59_ rfl rfl (any_of HT_.out (by kernel_rfl)) (fun _ _ _ h => h) (Or.inl ⟨by rfl, ?_⟩) ?_ ?_
       rotate_left
       ·intro w'
        go_simp
        with_reducible rfl
       rotate_left
       ·simp only [Act.put, y1_, y2_, y3_, i64_w, i32_w]
        rfl
       refine pure_ (i := 33) (N := some 116) (v := ?_) (a' := ?_) vb60_ rfl rfl (any_of HT_.out (by kernel_rfl)) (fun _ _ _ h => h) (Or.inl ⟨by rfl, ?_⟩) ?_ ?_
       rotate_left
       ·intro w'
        go_simp
        with_reducible rfl
       rotate_left
       ·simp only [Act.put, y1_, y2_, y3_, i64_w, i32_w]
        rfl
       refine pure_ (i := 34) (N := some 117) (v := ?_) (a' := ?_) vb61_ rfl rfl (any_of HT_.out (by kernel_rfl)) (fun _ _ _ h => h) (Or.inl ⟨by rfl, ?_⟩) ?_ ?_
       rotate_left
       ·intro w'
        go_simp
        with_reducible rfl
       rotate_left
       ·simp only [Act.put, y1_, y2_, y3_, i64_w, i32_w]
        rfl
       refine pure_ (i := 35) (N := some 118) (v := ?_) (a' := ?_) vb62_ rfl rfl (any_of HT_.out (by kernel_rfl)) (fun _ _ _ h => h) (Or.inl ⟨by rfl, ?_⟩) ?_ ?_
       rotate_left
       ·intro w'
        go_simp
        with_reducible rfl
       rotate_left
       ·simp only [Act.put, y1_, y2_, y3_, i64_w, i32_w]
        rfl
       refine pure_ (i := 36) (N := some 119) (v := ?_) (a' := ?_) vb63_ rfl rfl (any_of HT_.out (by kernel_rfl)) (fun _ _ _ h => h) (Or.inl ⟨by rfl, ?_⟩) ?_ ?_
       rotate_left
       ·intro w'
        go_simp
        with_reducible rfl
       rotate_left
       ·simp only [Act.put, y1_, y2_, y3_, i64_w, i32_w]
        rfl
       refine pure_ (i := 37) (N := some 120) (v := ?_) (a' := ?_) vb64_ rfl rfl (any_of HT_.out (by kernel_rfl)) (fun _ _ _ h => h) (Or.inl ⟨by rfl, ?_⟩) ?_ ?_
       rotate_left
       ·intro w'
        go_simp
        with_reducible rfl
       rotate_left
       ·simp only [Act.put, y1_, y2_, y3_, i64_w, i32_w]
        rfl
       refine pure_ (i := 38) (N := some 121) (v := ?_) (a' := ?_) vb65_ rfl rfl (any_of HT_.out (by kernel_rfl)) (fun _ _ _ h => h) (Or.inl ⟨by rfl, ?_⟩) ?_ ?_
       rotate_left
       ·intro w'
        go_simp
        with_reducible rfl
       rotate_left
       ·simp only [Act.put, y1_, y2_, y3_, i64_w, i32_w]
        rfl
       refine pure_ (i := 39) (N := some 122) (v := undef) (a' := ?_) vb66_ rfl rfl (any_of HT_.out (by kernel_rfl)) (fun _ _ _ h => h) (Or.inr ⟨by rfl, rfl⟩) ?_ ?_
       rotate_left
       ·simp only [Act.put, y1_, y2_, y3_, i64_w, i32_w]
        rfl
       refine pure_ (i := 40) (N := some 123) (v := undef) (a' := ?_) vb67_ rfl rfl (any_of HT_.out (by kernel_rfl)) (fun _ _ _ h => h) (Or.inr ⟨by rfl, rfl⟩) ?_ ?_
       rotate_left
       ·simp only [Act.put, y1_, y2_, y3_, i64_w, i32_w]
        rfl
       refine pure_ (i := 41) (N := some 124) (v := ?_) (a' := ?_) vb68_ rfl rfl (any_of HT_.out (by kernel_rfl)) (fun _ _ _ h => h) (Or.inl ⟨by rfl, ?_⟩) ?_ ?_
       rotate_left
       ·intro w'
        go_simp
        with_reducible rfl
       rotate_left
       ·simp only [Act.put, y1_, y2_, y3_, i64_w, i32_w]
        rfl
       refine pure_ (i := 42) (N := some 125) (v := ?_) (a' := ?_) vb69_ rfl rfl (any_of HT_.out (by kernel_rfl)) (fun _ _ _ h => h) (Or.inl ⟨by rfl, ?_⟩) ?_ ?_
       rotate_left
       ·intro w'
        go_simp
        with_reducible rfl
       rotate_left
       ·simp only [Act.put, y1_, y2_, y3_, i64_w, i32_w]
        rfl
       refine pure_ (i := 43) (N := some 126) (v := undef) (a' := ?_) vb70_ rfl rfl (any_of HT_.out (by kernel_rfl)) (fun _ _ _ h => h) (Or.inr ⟨by rfl, rfl⟩) ?_ ?_
       rotate_left
       ·simp only [Act.put, y1_, y2_, y3_, i64_w, i32_w]
        rfl
       refine pure_ (i := 44) (N := some 127) (v := undef) (a' := ?_) vb71_ rfl rfl (any_of HT_.out (by kernel_rfl)) (fun _ _ _ h => h) (Or.inr ⟨by rfl, rfl⟩) ?_ ?_
       rotate_left
       ·simp only [Act.put, y1_, y2_, y3_, i64_w, i32_w]
        rfl
       refine pure_ (i := 45) (N := some 128) (v := undef) (a' := ?_) vb72_ rfl rfl (any_of HT_.out (by kernel_rfl)) (fun _ _ _ h => h) (Or.inr ⟨by rfl, rfl⟩) ?_ ?_
       rotate_left
       ·simp only [Act.put, y1_, y2_, y3_, i64_w, i32_w]
        rfl
       refine pure_ (i := 46) (N := some 129) (v := ?_) (a' := ?_) vb73_ rfl rfl (any_of HT_.out (by kernel_rfl)) (fun _ _ _ h => h) (Or.inl ⟨by rfl, ?_⟩) ?_ ?_
       rotate_left
       ·intro w'
        go_simp
        with_reducible rfl
       rotate_left
       ·simp only [Act.put, y1_, y2_, y3_, i64_w, i32_w]
        rfl
       refine pure_ (i := 47) (N := some 130) (v := ?_) (a' := ?_) vb74_ rfl rfl (any_of HT_.out (by kernel_rfl)) (fun _ _ _ h => h) (Or.inl ⟨by rfl, ?_⟩) ?_ ?_
       rotate_left
       ·intro w'
        go_simp
        with_reducible rfl
       rotate_left
       ·simp only [Act.put, y1_, y2_, y3_, i64_w, i32_w]
        rfl
       refine done_ (done_of HT_.out (by kernel_rfl)) ?_
       try go_wp2
       go_meet
       case rel => exact ⟨_, (false), (t187), (t188), (t189), (by first | rfl | (simp; done) | (simp [*]; done)), H', ⟨by have := HK1.out; have := HJ13.out; first | omega | exact Nat.le_refl _⟩, ⟨by (with_reducible repeat (first | refine blk_drewN ?_ _ | refine blk_drew ?_ | refine blk_alloc ?_ _)); exact BK145.out⟩, ⟨by repeat (first | (with_reducible first | exact HI142.out | apply IsS66.alloc | apply IsS66.drewN | apply IsS66.drew | apply IsS66.set_0 | apply IsS66.set_1 | apply IsS66.set_2 | refine IsS66.far ?_ NB142_145.out _) | exact HI142.out)⟩, ⟨by repeat (first | (with_reducible first | exact HI143.out | apply IsS55.alloc | apply IsS55.drewN | apply IsS55.drew | apply IsS55.set_0 | apply IsS55.set_1 | apply IsS55.set_2 | refine IsS55.far ?_ NB143_145.out _) | exact HI143.out)⟩, ⟨by repeat (first | (with_reducible first | exact HB.out | apply below_alloc | apply pw_below_drewN | apply below_drew1 | refine below_set ?_ (IsS66.ge HI142.out) | refine below_set ?_ (IsS55.ge HI143.out) | refine below_set ?_ GE145.out) | exact HB.out)⟩⟩
      rw [if_pos c58] at H
      have c58b0 : decide (0 ≤ t178) = true := decide_eq_true c58
      clear c58
      by_cases c59 : t182 ≥ 0
      rotate_left
      ·rw [if_neg c59] at H
       have c59b0 : decide (0 ≤ t182) = false := decide_eq_false c59
       clear c59
       have H' := Aside0.mk H
       clear H
       try go_wp2
       have BS143 := Aside0.mk (show IsS55 w _ gb143 x144000_13 x144001_13 x144002_13 from by repeat (first | (with_reducible first | exact HI143.out | apply IsS55.alloc | apply IsS55.drewN | apply IsS55.drew | apply IsS55.set_0 | apply IsS55.set_1 | apply IsS55.set_2 | refine IsS55.far ?_ NB143_145.out _) | exact HI143.out)).1
       have n0_ := Aside0.mk (blk_drew BK145.out)
       have n1_ := Aside0.mk (blk_drew BS143.out)
       have n2_ := Aside0.mk (IsS66.drew HI142.out)
       have n3_ := Aside0.mk (IsS55.drew HI143.out)
       have n4_ := Aside0.mk (below_drew1 HB.out)
       clear BK145 BS143 HI142 HI143 HB
       have BK145 := n0_
       have BS143 := n1_
       have HI142 := n2_
       have HI143 := n3_
       have HB := n4_
       clear n0_ n1_ n2_ n3_ n4_
       refine start_ (n := 48) (S := fun w' => w'.cell? ⟨gb143, 0, none⟩ = some (.int .i64 x144000_13) ∧ w'.cell? ⟨gb143, 1, none⟩ = some (.bool x144001_13) ∧ w'.cell? ⟨gb143, 2, none⟩ = some (.int .i64 x144002_13)) (ds := []) vb26_ (by kernel_rfl) rfl rfl ⟨(blk_cell BS143.out 0).trans rfl, (blk_cell BS143.out 1).trans rfl, (blk_cell BS143.out 2).trans rfl⟩ (fun hHeld => ?_); refine with_tabW countermandlaw19_TokenDoes.tab20 countermandlaw19_TokenDoes.bits20 (fun HT_ HW_ => ?_)
       generalize w51.drew = w62 at BK145 BS143 HI142 HI143 HB hHeld ⊢
       refine pure_ (i := 0) (N := some 83) (v := ?_) (a' := ?_) vb27_ rfl rfl (any_of HT_.out (by kernel_rfl)) (fun _ _ _ h => h) (Or.inl ⟨by rfl, ?_⟩) ?_ ?_
       rotate_left
       ·intro w'
        go_simp
        with_reducible rfl
       rotate_left
       ·simp only [Act.put, y1_, y2_, y3_, i64_w, i32_w]
        rfl
       refine pure_ (i := 1) (N := some 84) (v := ?_) (a' := ?_) vb28_ rfl rfl (any_of HT_.out (by kernel_rfl)) (fun _ _ _ h => h) (Or.inl ⟨by rfl, ?_⟩) ?_ ?_
       rotate_left
       ·intro w'
        go_simp
        with_reducible rfl
       rotate_left
       ·simp only [Act.put, y1_, y2_, y3_, i64_w, i32_w]
        rfl
       refine pure_ (i := 2) (N := some 85) (v := ?_) (a' := ?_) vb29_ rfl rfl (any_of HT_.out (by kernel_rfl)) (fun _ _ _ h => h) (Or.inl ⟨by rfl, ?_⟩) ?_ ?_
       rotate_left
       ·intro w'
        go_simp
        with_reducible rfl
       rotate_left
       ·simp only [Act.put, y1_, y2_, y3_, i64_w, i32_w]
        rfl
       refine pure_ (i := 3) (N := some 86) (v := ?_) (a' := ?_) vb30_ rfl rfl (any_of HT_.out (by kernel_rfl)) (fun _ _ _ h => h) (Or.inl ⟨by rfl, ?_⟩) ?_ ?_
       rotate_left
       ·intro w'
        go_simp
        with_reducible rfl
       rotate_left
       ·simp only [Act.put, y1_, y2_, y3_, i64_w, i32_w]
        rfl
       refine pure_ (i := 4) (N := some 87) (v := ?_) (a' := ?_) vb31_ rfl rfl (any_of HT_.out (by kernel_rfl)) (fun _ _ _ h => h) (Or.inl ⟨by rfl, ?_⟩) ?_ ?_
       rotate_left
       ·intro w'
        go_simp
        with_reducible rfl
       rotate_left
       ·simp only [Act.put, y1_, y2_, y3_, i64_w, i32_w]
        rfl
       refine pure_ (i := 5) (N := some 88) (v := ?_) (a' := ?_) vb32_ rfl rfl (any_of HT_.out (by kernel_rfl)) (fun _ _ _ h => h) (Or.inl ⟨by rfl, ?_⟩) ?_ ?_
       rotate_left
       ·intro w'
        go_simp
        with_reducible rfl
       rotate_left
       ·simp only [Act.put, y1_, y2_, y3_, i64_w, i32_w]
        rfl
       refine pure_ (i := 6) (N := some 89) (v := ?_) (a' := ?_) vb33_ rfl rfl (any_of HT_.out (by kernel_rfl)) (fun _ _ _ h => h) (Or.inl ⟨by rfl, ?_⟩) ?_ ?_
       rotate_left
       ·intro w'
        go_simp
        with_reducible rfl
       rotate_left
       ·simp only [Act.put, y1_, y2_, y3_, i64_w, i32_w]
        rfl
       refine take_ (i := 7) (N := some 90) (v := ?_) (a' := ?_) vb34_ rfl rfl (take_ofW HT_.out HW_.out (by kernel_rfl)) (fun _ _ _ h => h) (Or.inl ⟨by rfl, ?_⟩) hHeld ?_ ?_
       rotate_left
       ·rintro w' ⟨s0, s1, s2⟩
        go_simp
        with_reducible rfl
       rotate_left
       ·simp only [Act.put, y1_, y2_, y3_, i64_w, i32_w]
        rfl
       refine pure_ (i := 8) (N := some 91) (v := ?_) (a' := ?_) vb35_ rfl rfl (any_of HT_.out (by kernel_rfl)) (fun _ _ _ h => h) (Or.inl ⟨by rfl, ?_⟩) ?_ ?_
       rotate_left
       ·intro w'
        go_simp
        with_reducible rfl
       rotate_left
       ·simp only [Act.put, y1_, y2_, y3_, i64_w, i32_w]
        rfl
       refine pure_ (i := 9) (N := some 92) (v := ?_) (a' := ?_) vb36_ rfl rfl (any_of HT_.out (by kernel_rfl)) (fun _ _ _ h => h) (Or.inl ⟨by rfl, ?_⟩) ?_ ?_
       rotate_left
       ·intro w'
        go_simp
        with_reducible rfl
       rotate_left
       ·simp only [Act.put, y1_, y2_, y3_, i64_w, i32_w]
        rfl
       refine pure_ (i := 10) (N := some 93) (v := ?_) (a' := ?_) vb37_ rfl rfl (any_of HT_.out (by kernel_rfl)) (fun _ _ _ h => h) (Or.inl ⟨by rfl, ?_⟩) ?_ ?_
       rotate_left
       ·intro w'
        go_simp
        with_reducible rfl
       rotate_left
       ·simp only [Act.put, y1_, y2_, y3_, i64_w, i32_w]
        rfl
       refine pure_ (i := 11) (N := some 94) (v := ?_) (a' := ?_) vb38_ rfl rfl (any_of HT_.out (by kernel_rfl)) (fun _ _ _ h => h) (Or.inl ⟨by rfl, ?_⟩) ?_ ?_
       rotate_left
       ·intro w'
        go_simp
        with_reducible rfl
       rotate_left
       ·simp only [Act.put, y1_, y2_, y3_, i64_w, i32_w]
        rfl
       refine pure_ (i := 12) (N := some 95) (v := ?_) (a' := ?_) vb39_ rfl rfl (any_of HT_.out (by kernel_rfl)) (fun _ _ _ h => h) (Or.inl ⟨by rfl, ?_⟩) ?_ ?_
       rotate_left
       ·intro w'
        go_simp
        with_reducible rfl
       rotate_left
       ·simp only [Act.put, y1_, y2_, y3_, i64_w, i32_w]
        rfl
       refine pure_ (i := 13) (N := some 96) (v := ?_) (a' := ?_) vb40_ rfl rfl (any_of HT_.out (by kernel_rfl)) (fun _ _ _ h => h) (Or.inl ⟨by rfl, ?_⟩) ?_ ?_
       rotate_left
       ·intro w'
        go_simp
        with_reducible rfl
       rotate_left
       ·simp only [Act.put, y1_, y2_, y3_, i64_w, i32_w]
        rfl
       refine pure_ (i := 14) (N := some 97) (v := ?_) (a' := ?_) vb41_ rfl rfl (any_of HT_.out (by kernel_rfl)) (fun _ _ _ h => h) (Or.inl ⟨by rfl, ?_⟩) ?_ ?_
       rotate_left
       ·intro w'
        go_simp
        with_reducible rfl
       rotate_left
       ·simp only [Act.put, y1_, y2_, y3_, i64_w, i32_w]
        rfl
       refine take_ (i := 15) (N := some 98) (v := ?_) (a' := ?_) vb42_ rfl rfl (take_ofW HT_.out HW_.out (by kernel_rfl)) (fun _ _ _ h => h) (Or.inl ⟨by rfl, ?_⟩) hHeld ?_ ?_
       rotate_left
       ·rintro w' ⟨s0, s1, s2⟩
        go_simp
        with_reducible rfl
       rotate_left
       ·simp only [Act.put, y1_, y2_, y3_, i64_w, i32_w]
        rfl
       refine pure_ (i := 16) (N := some 99) (v := ?_) (a' := ?_) vb43_ rfl rfl (any_of HT_.out (by kernel_rfl)) (fun _ _ _ h => h) (Or.inl ⟨by rfl, ?_⟩) ?_ ?_
       rotate_left
       ·intro w'
        go_simp
        with_reducible rfl
       rotate_left
       ·simp only [Act.put, y1_, y2_, y3_, i64_w, i32_w]
        rfl
       refine pure_ (i := 17) (N := some 100) (v := ?_) (a' := ?_) vb44_ rfl rfl (any_of HT_.out (by kernel_rfl)) (fun _ _ _ h => h) (Or.inl ⟨by rfl, ?_⟩) ?_ ?_
       rotate_left
       ·intro w'
        go_simp
        with_reducible rfl
       rotate_left
       ·simp only [Act.put, y1_, y2_, y3_, i64_w, i32_w]
        rfl
       refine pure_ (i := 18) (N := some 101) (v := ?_) (a' := ?_) vb45_ rfl rfl (any_of HT_.out (by kernel_rfl)) (fun _ _ _ h => h) (Or.inl ⟨by rfl, ?_⟩) ?_ ?_
       rotate_left
       ·intro w'
        go_simp
        with_reducible rfl
       rotate_left
       ·simp only [Act.put, y1_, y2_, y3_, i64_w, i32_w]
        rfl
       refine pure_ (i := 19) (N := some 102) (v := ?_) (a' := ?_) vb46_ rfl rfl (any_of HT_.out (by kernel_rfl)) (fun _ _ _ h => h) (Or.inl ⟨by rfl, ?_⟩) ?_ ?_
       rotate_left
       ·intro w'
        go_simp
        with_reducible rfl
       rotate_left
       ·simp only [Act.put, y1_, y2_, y3_, i64_w, i32_w]
        rfl
       refine pure_ (i := 21) (N := some 104) (v := ?_) (a' := ?_) vb47_ rfl rfl (any_of HT_.out (by kernel_rfl)) (fun _ _ _ h => h) (Or.inl ⟨by rfl, ?_⟩) ?_ ?_
       rotate_left
       ·intro w'
        go_simp
        with_reducible rfl
       rotate_left
       ·simp only [Act.put, y1_, y2_, y3_, i64_w, i32_w]
        rfl
       refine pure_ (i := 22) (N := some 105) (v := ?_) (a' := ?_) vb48_ rfl rfl (any_of HT_.out (by kernel_rfl)) (fun _ _ _ h => h) (Or.inl ⟨by rfl, ?_⟩) ?_ ?_
       rotate_left
       ·intro w'
        go_simp
        with_reducible rfl
       rotate_left
       ·simp only [Act.put, y1_, y2_, y3_, i64_w, i32_w]
        rfl
       refine pure_ (i := 23) (N := some 106) (v := ?_) (a' := ?_) vb49_ rfl rfl (any_of HT_.out (by kernel_rfl)) (fun _ _ _ h => h) (Or.inl ⟨by rfl, ?_⟩) ?_ ?_
       rotate_left
       ·intro w'
        go_simp
        with_reducible rfl
       rotate_left
       ·simp only [Act.put, y1_, y2_, y3_, i64_w, i32_w]
        rfl
       refine take_ (i := 24) (N := some 107) (v := ?_) (a' := ?_) vb50_ rfl rfl (take_ofW HT_.out HW_.out (by kernel_rfl)) (fun _ _ _ h => h) (Or.inl ⟨by rfl, ?_⟩) hHeld ?_ ?_
       rotate_left
       ·rintro w' ⟨s0, s1, s2⟩
        go_simp
        with_reducible rfl
       rotate_left
       ·simp only [Act.put, y1_, y2_, y3_, i64_w, i32_w]
        rfl
       refine pure_ (i := 25) (N := some 108) (v := ?_) (a' := ?_) vb51_ rfl rfl (any_of HT_.out (by kernel_rfl)) (fun _ _ _ h => h) (Or.inl ⟨by rfl, ?_⟩) ?_ ?_
       rotate_left
       ·intro w'
        go_simp
        with_reducible rfl
       rotate_left
       ·simp only [Act.put, y1_, y2_, y3_, i64_w, i32_w]
        rfl
       refine one_ (i := 20) (N := some 103) vb52_ rfl rfl (one_of HT_.out (by kernel_rfl)) (by decide) (fun K hK => ?_)
       refine goes_ Try.func31 (by kernel_rfl) rfl #[.pointer (some ⟨g142, 0, none⟩)] (by rfl) rfl rfl (by (try simp only [List.map_toArray, List.map_cons, List.map_nil]); first | done | rfl | (simp only [List.length_drop, List.length_take]; rfl)) ?_
       with_reducible refine (token_Token_Soft.calls g142 t183 t184 t185 t186 t187 t188 t189 w _ ?side1 ?side2 A55.out).mono ?_
       (case side1 => repeat (first | (with_reducible first | exact HI142.out | apply IsS66.alloc | apply IsS66.drewN | apply IsS66.drew | apply IsS66.set_0 | apply IsS66.set_1 | apply IsS66.set_2 | refine IsS66.far ?_ NB142_145.out _ | refine IsS66.far ?_ NB142_143.out _) | exact HI142.out))
       (case side2 => repeat (first | (with_reducible first | exact HB.out | apply below_alloc | apply pw_below_drewN | apply below_drew1 | refine below_set ?_ (IsS66.ge HI142.out) | refine below_set ?_ (IsS55.ge HI143.out) | refine below_set ?_ GE145.out | refine below_set ?_ GE143.out) | exact HB.out))
       rintro e w63 ⟨rfl, hi, hb, hk⟩
       refine ⟨_, rfl, ?_⟩
       have n0_ := Aside0.mk (KeepBut.blk hk (g' := gb145) (o := .cells #[.int .i64 ((rd_T49 l0 x25_1).f0), .int .i64 ((rd_T49 l0 x25_1).f1), .bool ((rd_T49 l0 x25_1).f2)] 49 (0, 0)) (by (with_reducible repeat (first | refine blk_drewN ?_ _ | refine blk_drew ?_ | refine blk_alloc ?_ _)); exact BK145.out) NB145_142.out (by simp))
       have n1_ := Aside0.mk ((show IsS55 w w63 gb143 x144000_13 x144001_13 x144002_13 from ⟨KeepBut.blk hk (show IsS55 w _ gb143 x144000_13 x144001_13 x144002_13 from by repeat (first | (with_reducible first | exact HI143.out | apply IsS55.alloc | apply IsS55.drewN | apply IsS55.drew | apply IsS55.set_0 | apply IsS55.set_1 | apply IsS55.set_2 | refine IsS55.far ?_ NB143_145.out _ | refine IsS55.far ?_ NB143_143.out _) | exact HI143.out)).1 NB143_142.out (by simp), (show IsS55 w _ gb143 x144000_13 x144001_13 x144002_13 from by repeat (first | (with_reducible first | exact HI143.out | apply IsS55.alloc | apply IsS55.drewN | apply IsS55.drew | apply IsS55.set_0 | apply IsS55.set_1 | apply IsS55.set_2 | refine IsS55.far ?_ NB143_145.out _ | refine IsS55.far ?_ NB143_143.out _) | exact HI143.out)).2⟩))
       have n2_ := Aside0.mk (KeepBut.blk hk (g' := gb143) (o := .cells #[.int .i64 x144000_13, .bool x144001_13, .int .i64 x144002_13] 55 (0, 0)) (by (with_reducible repeat (first | refine blk_drewN ?_ _ | refine blk_drew ?_ | refine blk_alloc ?_ _)); exact BS143.out) NB143_142.out (by simp))
       have n3_ := Aside0.mk (hb)
       have n4_ := Aside0.mk (hi)
       clear BK145 HI143 BS143 HB HI142
       have BK145 := n0_
       have HI143 := n1_
       have BS143 := n2_
       have HB := n3_
       have HI142 := n4_
       clear n0_ n1_ n2_ n3_ n4_
       (try clear hb); (try clear hb2)
       (try clear hk); (try clear hi)
       refine hK.out _ _ ⟨(blk_cell BS143.out 0).trans rfl, (blk_cell BS143.out 1).trans rfl, (blk_cell BS143.out 2).trans rfl⟩ (fun hHeld => ?_)
       clear hK K
       refine norm_ (a' := ?_) ?_ ?_
       rotate_left
       ·show Act.put _ (some 103) _ = _
        simp only [Act.put, y1_, y2_, y3_, i64_w, i32_w]
        rfl
       refine pure_ (i := 26) (N := some 109) (v := ?_) (a' := ?_) vb53_ rfl rfl (any_of HT_.out (by kernel_rfl)) (fun _ _ _ h => h) (Or.inl ⟨by rfl, ?_⟩) ?_ ?_
       rotate_left
       ·intro w'
        go_simp
        with_reducible rfl
       rotate_left
       ·simp only [Act.put, y1_, y2_, y3_, i64_w, i32_w]
        rfl
       refine pure_ (i := 27) (N := some 110) (v := ?_) (a' := ?_) vb54_ rfl rfl (any_of HT_.out (by kernel_rfl)) (fun _ _ _ h => h) (Or.inl ⟨by rfl, ?_⟩) ?_ ?_
       rotate_left
       ·intro w'
        go_simp
        with_reducible rfl
       rotate_left
       ·simp only [Act.put, y1_, y2_, y3_, i64_w, i32_w]
        rfl
       refine pure_ (i := 28) (N := some 111) (v := ?_) (a' := ?_) vb55_ rfl rfl (any_of HT_.out (by kernel_rfl)) (fun _ _ _ h => h) (Or.inl ⟨by rfl, ?_⟩) ?_ ?_
       rotate_left
       ·intro w'
        go_simp
        with_reducible rfl
       rotate_left
       ·simp only [Act.put, y1_, y2_, y3_, i64_w, i32_w]
        rfl
       refine pure_ (i := 29) (N := some 112) (v := ?_) (a' := ?_) vb56_ rfl rfl (any_of HT_.out (by kernel_rfl)) (fun _ _ _ h => h) (Or.inl ⟨by rfl, ?_⟩) ?_ ?_
       rotate_left
       ·intro w'
        go_simp
        with_reducible rfl
       rotate_left
       ·simp only [Act.put, y1_, y2_, y3_, i64_w, i32_w]
        rfl
       refine take_ (i := 30) (N := some 113) (v := ?_) (a' := ?_) vb57_ rfl rfl (take_ofW HT_.out HW_.out (by kernel_rfl)) (fun _ _ _ h => h) (Or.inl ⟨by rfl, ?_⟩) hHeld ?_ ?_
       rotate_left
       ·rintro w' ⟨s0, s1, s2⟩
        go_simp
        with_reducible rfl
       rotate_left
       ·simp only [Act.put, y1_, y2_, y3_, i64_w, i32_w]
        rfl
       refine pure_ (i := 31) (N := some 114) (v := ?_) (a' := ?_) vb58_ rfl rfl (any_of HT_.out (by kernel_rfl)) (fun _ _ _ h => h) (Or.inl ⟨by rfl, ?_⟩) ?_ ?_
       rotate_left
       ·intro w'
        go_simp
        with_reducible rfl
       rotate_left
       ·simp only [Act.put, y1_, y2_, y3_, i64_w, i32_w]
        rfl
       refine pure_ (i := 32) (N := some 115) (v := ?_) (a' := ?_) vb59_ rfl rfl (any_of HT_.out (by kernel_rfl)) (fun _ _ _ h => h) (Or.inl ⟨by rfl, ?_⟩) ?_ ?_
       rotate_left
       ·intro w'
        go_simp
        with_reducible rfl
       rotate_left
       ·simp only [Act.put, y1_, y2_, y3_, i64_w, i32_w]
        rfl
       refine pure_ (i := 33) (N := some 116) (v := ?_) (a' := ?_) vb60_ rfl rfl (any_of HT_.out (by kernel_rfl)) (fun _ _ _ h => h) (Or.inl ⟨by rfl, ?_⟩) ?_ ?_
       rotate_left
       ·intro w'
        go_simp
        with_reducible rfl
       rotate_left
       ·simp only [Act.put, y1_, y2_, y3_, i64_w, i32_w]
        rfl
       refine pure_ (i := 34) (N := some 117) (v := ?_) (a' := ?_) vb61_ rfl rfl (any_of HT_.out (by kernel_rfl)) (fun _ _ _ h => h) (Or.inl ⟨by rfl, ?_⟩) ?_ ?_
       rotate_left
       ·intro w'
        go_simp
        with_reducible rfl
       rotate_left
       ·simp only [Act.put, y1_, y2_, y3_, i64_w, i32_w]
        rfl
       refine pure_ (i := 35) (N := some 118) (v := ?_) (a' := ?_) vb62_ rfl rfl (any_of HT_.out (by kernel_rfl)) (fun _ _ _ h => h) (Or.inl ⟨by rfl, ?_⟩) ?_ ?_
       rotate_left
       ·intro w'
        go_simp
        with_reducible rfl
       rotate_left
       ·simp only [Act.put, y1_, y2_, y3_, i64_w, i32_w]
        rfl
       refine pure_ (i := 36) (N := some 119) (v := ?_) (a' := ?_) vb63_ rfl rfl (any_of HT_.out (by kernel_rfl)) (fun _ _ _ h => h) (Or.inl ⟨by rfl, ?_⟩) ?_ ?_
       rotate_left
       ·intro w'
        go_simp
        with_reducible rfl
       rotate_left
       ·simp only [Act.put, y1_, y2_, y3_, i64_w, i32_w]
        rfl
       refine pure_ (i := 37) (N := some 120) (v := ?_) (a' := ?_) vb64_ rfl rfl (any_of HT_.out (by kernel_rfl)) (fun _ _ _ h => h) (Or.inl ⟨by rfl, ?_⟩) ?_ ?_
       rotate_left
       ·intro w'
        go_simp
        with_reducible rfl
       rotate_left
       ·simp only [Act.put, y1_, y2_, y3_, i64_w, i32_w]
        rfl
       refine pure_ (i := 38) (N := some 121) (v := ?_) (a' := ?_) vb65_ rfl rfl (any_of HT_.out (by kernel_rfl)) (fun _ _ _ h => h) (Or.inl ⟨by rfl, ?_⟩) ?_ ?_
       rotate_left
       ·intro w'
        go_simp
        with_reducible rfl
       rotate_left
       ·simp only [Act.put, y1_, y2_, y3_, i64_w, i32_w]
        rfl
       refine pure_ (i := 39) (N := some 122) (v := ?_) (a' := ?_) vb66_ rfl rfl (any_of HT_.out (by kernel_rfl)) (fun _ _ _ h => h) (Or.inl ⟨by rfl, ?_⟩) ?_ ?_
       rotate_left
       ·intro w'
        go_simp
        with_reducible rfl
       rotate_left
       ·simp only [Act.put, y1_, y2_, y3_, i64_w, i32_w]
        rfl
       refine pure_ (i := 40) (N := some 123) (v := ?_) (a' := ?_) vb67_ rfl rfl (any_of HT_.out (by kernel_rfl)) (fun _ _ _ h => h) (Or.inl ⟨by rfl, ?_⟩) ?_ ?_
       rotate_left
       ·intro w'
        go_simp
        with_reducible rfl
       rotate_left
       ·simp only [Act.put, y1_, y2_, y3_, i64_w, i32_w]
        rfl
       refine pure_ (i := 41) (N := some 124) (v := ?_) (a' := ?_) vb68_ rfl rfl (any_of HT_.out (by kernel_rfl)) (fun _ _ _ h => h) (Or.inl ⟨by rfl, ?_⟩) ?_ ?_
       rotate_left
       ·intro w'
        go_simp
        with_reducible rfl
       rotate_left
       ·simp only [Act.put, y1_, y2_, y3_, i64_w, i32_w]
        rfl
       refine pure_ (i := 42) (N := some 125) (v := ?_) (a' := ?_) vb69_ rfl rfl (any_of HT_.out (by kernel_rfl)) (fun _ _ _ h => h) (Or.inl ⟨by rfl, ?_⟩) ?_ ?_
       rotate_left
       ·intro w'
        go_simp
        with_reducible rfl
       rotate_left
       ·simp only [Act.put, y1_, y2_, y3_, i64_w, i32_w]
        rfl
       refine pure_ (i := 43) (N := some 126) (v := undef) (a' := ?_) vb70_ rfl rfl (any_of HT_.out (by kernel_rfl)) (fun _ _ _ h => h) (Or.inr ⟨by rfl, rfl⟩) ?_ ?_
       rotate_left
       ·simp only [Act.put, y1_, y2_, y3_, i64_w, i32_w]
        rfl
       refine pure_ (i := 44) (N := some 127) (v := undef) (a' := ?_) vb71_ rfl rfl (any_of HT_.out (by kernel_rfl)) (fun _ _ _ h => h) (Or.inr ⟨by rfl, rfl⟩) ?_ ?_
       rotate_left
       ·simp only [Act.put, y1_, y2_, y3_, i64_w, i32_w]
        rfl
       refine pure_ (i := 45) (N := some 128) (v := undef) (a' := ?_) vb72_ rfl rfl (any_of HT_.out (by kernel_rfl)) (fun _ _ _ h => h) (Or.inr ⟨by rfl, rfl⟩) ?_ ?_
       rotate_left
       ·simp only [Act.put, y1_, y2_, y3_, i64_w, i32_w]
        rfl
       refine pure_ (i := 46) (N := some 129) (v := ?_) (a' := ?_) vb73_ rfl rfl (any_of HT_.out (by kernel_rfl)) (fun _ _ _ h => h) (Or.inl ⟨by rfl, ?_⟩) ?_ ?_
       rotate_left
       ·intro w'
        go_simp
        with_reducible rfl
       rotate_left
       ·simp only [Act.put, y1_, y2_, y3_, i64_w, i32_w]
        rfl
       refine pure_ (i := 47) (N := some 130) (v := ?_) (a' := ?_) vb74_ rfl rfl (any_of HT_.out (by kernel_rfl)) (fun _ _ _ h => h) (Or.inl ⟨by rfl, ?_⟩) ?_ ?_
       rotate_left
       ·intro w'
        go_simp
        with_reducible rfl
       rotate_left
       ·simp only [Act.put, y1_, y2_, y3_, i64_w, i32_w]
        rfl
       refine done_ (done_of HT_.out (by kernel_rfl)) ?_
       try go_wp2
       go_meet
       case rel => exact ⟨_, (false), (t187), (t188), (t189), (by first | rfl | (simp; done) | (simp [*]; done)), H', ⟨by have := HK1.out; have := HJ13.out; first | omega | exact Nat.le_refl _⟩, ⟨by (with_reducible repeat (first | refine blk_drewN ?_ _ | refine blk_drew ?_ | refine blk_alloc ?_ _)); exact BK145.out⟩, ⟨by repeat (first | (with_reducible first | exact HI142.out | apply IsS66.alloc | apply IsS66.drewN | apply IsS66.drew | apply IsS66.set_0 | apply IsS66.set_1 | apply IsS66.set_2 | refine IsS66.far ?_ NB142_145.out _) | exact HI142.out)⟩, ⟨by repeat (first | (with_reducible first | exact HI143.out | apply IsS55.alloc | apply IsS55.drewN | apply IsS55.drew | apply IsS55.set_0 | apply IsS55.set_1 | apply IsS55.set_2 | refine IsS55.far ?_ NB143_145.out _) | exact HI143.out)⟩, ⟨by repeat (first | (with_reducible first | exact HB.out | apply below_alloc | apply pw_below_drewN | apply below_drew1 | refine below_set ?_ (IsS66.ge HI142.out) | refine below_set ?_ (IsS55.ge HI143.out) | refine below_set ?_ GE145.out) | exact HB.out)⟩⟩
      rw [if_pos c59] at H
      have c59b0 : decide (0 ≤ t182) = true := decide_eq_true c59
      clear c59
      have H' := Aside0.mk H
      clear H
      try go_wp2
      have BS143 := Aside0.mk (show IsS55 w _ gb143 x144000_13 x144001_13 x144002_13 from by repeat (first | (with_reducible first | exact HI143.out | apply IsS55.alloc | apply IsS55.drewN | apply IsS55.drew | apply IsS55.set_0 | apply IsS55.set_1 | apply IsS55.set_2 | refine IsS55.far ?_ NB143_145.out _) | exact HI143.out)).1
      have n0_ := Aside0.mk (blk_drew BK145.out)
      have n1_ := Aside0.mk (blk_drew BS143.out)
      have n2_ := Aside0.mk (IsS66.drew HI142.out)
      have n3_ := Aside0.mk (IsS55.drew HI143.out)
      have n4_ := Aside0.mk (below_drew1 HB.out)
      clear BK145 BS143 HI142 HI143 HB
      have BK145 := n0_
      have BS143 := n1_
      have HI142 := n2_
      have HI143 := n3_
      have HB := n4_
      clear n0_ n1_ n2_ n3_ n4_
      refine start_ (n := 48) (S := fun w' => w'.cell? ⟨gb143, 0, none⟩ = some (.int .i64 x144000_13) ∧ w'.cell? ⟨gb143, 1, none⟩ = some (.bool x144001_13) ∧ w'.cell? ⟨gb143, 2, none⟩ = some (.int .i64 x144002_13)) (ds := []) vb26_ (by kernel_rfl) rfl rfl ⟨(blk_cell BS143.out 0).trans rfl, (blk_cell BS143.out 1).trans rfl, (blk_cell BS143.out 2).trans rfl⟩ (fun hHeld => ?_); refine with_tabW countermandlaw19_TokenDoes.tab20 countermandlaw19_TokenDoes.bits20 (fun HT_ HW_ => ?_)
      generalize w51.drew = w60 at BK145 BS143 HI142 HI143 HB hHeld ⊢
      refine pure_ (i := 0) (N := some 83) (v := ?_) (a' := ?_) vb27_ rfl rfl (any_of HT_.out (by kernel_rfl)) (fun _ _ _ h => h) (Or.inl ⟨by rfl, ?_⟩) ?_ ?_
      rotate_left
      ·intro w'
       go_simp
       with_reducible rfl
      rotate_left
      ·simp only [Act.put, y1_, y2_, y3_, i64_w, i32_w]
       rfl
      refine pure_ (i := 1) (N := some 84) (v := ?_) (a' := ?_) vb28_ rfl rfl (any_of HT_.out (by kernel_rfl)) (fun _ _ _ h => h) (Or.inl ⟨by rfl, ?_⟩) ?_ ?_
      rotate_left
      ·intro w'
       go_simp
       with_reducible rfl
      rotate_left
      ·simp only [Act.put, y1_, y2_, y3_, i64_w, i32_w]
       rfl
      refine pure_ (i := 2) (N := some 85) (v := ?_) (a' := ?_) vb29_ rfl rfl (any_of HT_.out (by kernel_rfl)) (fun _ _ _ h => h) (Or.inl ⟨by rfl, ?_⟩) ?_ ?_
      rotate_left
      ·intro w'
       go_simp
       with_reducible rfl
      rotate_left
      ·simp only [Act.put, y1_, y2_, y3_, i64_w, i32_w]
       rfl
      refine pure_ (i := 3) (N := some 86) (v := ?_) (a' := ?_) vb30_ rfl rfl (any_of HT_.out (by kernel_rfl)) (fun _ _ _ h => h) (Or.inl ⟨by rfl, ?_⟩) ?_ ?_
      rotate_left
      ·intro w'
       go_simp
       with_reducible rfl
      rotate_left
      ·simp only [Act.put, y1_, y2_, y3_, i64_w, i32_w]
       rfl
      refine pure_ (i := 4) (N := some 87) (v := ?_) (a' := ?_) vb31_ rfl rfl (any_of HT_.out (by kernel_rfl)) (fun _ _ _ h => h) (Or.inl ⟨by rfl, ?_⟩) ?_ ?_
      rotate_left
      ·intro w'
       go_simp
       with_reducible rfl
      rotate_left
      ·simp only [Act.put, y1_, y2_, y3_, i64_w, i32_w]
       rfl
      refine pure_ (i := 5) (N := some 88) (v := ?_) (a' := ?_) vb32_ rfl rfl (any_of HT_.out (by kernel_rfl)) (fun _ _ _ h => h) (Or.inl ⟨by rfl, ?_⟩) ?_ ?_
      rotate_left
      ·intro w'
       go_simp
       with_reducible rfl
      rotate_left
      ·simp only [Act.put, y1_, y2_, y3_, i64_w, i32_w]
       rfl
      refine pure_ (i := 6) (N := some 89) (v := ?_) (a' := ?_) vb33_ rfl rfl (any_of HT_.out (by kernel_rfl)) (fun _ _ _ h => h) (Or.inl ⟨by rfl, ?_⟩) ?_ ?_
      rotate_left
      ·intro w'
       go_simp
       with_reducible rfl
      rotate_left
      ·simp only [Act.put, y1_, y2_, y3_, i64_w, i32_w]
       rfl
      refine take_ (i := 7) (N := some 90) (v := ?_) (a' := ?_) vb34_ rfl rfl (take_ofW HT_.out HW_.out (by kernel_rfl)) (fun _ _ _ h => h) (Or.inl ⟨by rfl, ?_⟩) hHeld ?_ ?_
      rotate_left
      ·rintro w' ⟨s0, s1, s2⟩
       go_simp
       with_reducible rfl
      rotate_left
      ·simp only [Act.put, y1_, y2_, y3_, i64_w, i32_w]
       rfl
      refine pure_ (i := 8) (N := some 91) (v := ?_) (a' := ?_) vb35_ rfl rfl (any_of HT_.out (by kernel_rfl)) (fun _ _ _ h => h) (Or.inl ⟨by rfl, ?_⟩) ?_ ?_
      rotate_left
      ·intro w'
       go_simp
       with_reducible rfl
      rotate_left
      ·simp only [Act.put, y1_, y2_, y3_, i64_w, i32_w]
       rfl
      refine pure_ (i := 9) (N := some 92) (v := ?_) (a' := ?_) vb36_ rfl rfl (any_of HT_.out (by kernel_rfl)) (fun _ _ _ h => h) (Or.inl ⟨by rfl, ?_⟩) ?_ ?_
      rotate_left
      ·intro w'
       go_simp
       with_reducible rfl
      rotate_left
      ·simp only [Act.put, y1_, y2_, y3_, i64_w, i32_w]
       rfl
      refine pure_ (i := 10) (N := some 93) (v := ?_) (a' := ?_) vb37_ rfl rfl (any_of HT_.out (by kernel_rfl)) (fun _ _ _ h => h) (Or.inl ⟨by rfl, ?_⟩) ?_ ?_
      rotate_left
      ·intro w'
       go_simp
       with_reducible rfl
      rotate_left
      ·simp only [Act.put, y1_, y2_, y3_, i64_w, i32_w]
       rfl
      refine pure_ (i := 11) (N := some 94) (v := ?_) (a' := ?_) vb38_ rfl rfl (any_of HT_.out (by kernel_rfl)) (fun _ _ _ h => h) (Or.inl ⟨by rfl, ?_⟩) ?_ ?_
      rotate_left
      ·intro w'
       go_simp
       with_reducible rfl
      rotate_left
      ·simp only [Act.put, y1_, y2_, y3_, i64_w, i32_w]
       rfl
      refine pure_ (i := 12) (N := some 95) (v := ?_) (a' := ?_) vb39_ rfl rfl (any_of HT_.out (by kernel_rfl)) (fun _ _ _ h => h) (Or.inl ⟨by rfl, ?_⟩) ?_ ?_
      rotate_left
      ·intro w'
       go_simp
       with_reducible rfl
      rotate_left
      ·simp only [Act.put, y1_, y2_, y3_, i64_w, i32_w]
       rfl
      refine pure_ (i := 13) (N := some 96) (v := ?_) (a' := ?_) vb40_ rfl rfl (any_of HT_.out (by kernel_rfl)) (fun _ _ _ h => h) (Or.inl ⟨by rfl, ?_⟩) ?_ ?_
      rotate_left
      ·intro w'
       go_simp
       with_reducible rfl
      rotate_left
      ·simp only [Act.put, y1_, y2_, y3_, i64_w, i32_w]
       rfl
      refine pure_ (i := 14) (N := some 97) (v := ?_) (a' := ?_) vb41_ rfl rfl (any_of HT_.out (by kernel_rfl)) (fun _ _ _ h => h) (Or.inl ⟨by rfl, ?_⟩) ?_ ?_
      rotate_left
      ·intro w'
       go_simp
       with_reducible rfl
      rotate_left
      ·simp only [Act.put, y1_, y2_, y3_, i64_w, i32_w]
       rfl
      refine take_ (i := 15) (N := some 98) (v := ?_) (a' := ?_) vb42_ rfl rfl (take_ofW HT_.out HW_.out (by kernel_rfl)) (fun _ _ _ h => h) (Or.inl ⟨by rfl, ?_⟩) hHeld ?_ ?_
      rotate_left
      ·rintro w' ⟨s0, s1, s2⟩
       go_simp
       with_reducible rfl
      rotate_left
      ·simp only [Act.put, y1_, y2_, y3_, i64_w, i32_w]
       rfl
      refine pure_ (i := 16) (N := some 99) (v := ?_) (a' := ?_) vb43_ rfl rfl (any_of HT_.out (by kernel_rfl)) (fun _ _ _ h => h) (Or.inl ⟨by rfl, ?_⟩) ?_ ?_
      rotate_left
      ·intro w'
       go_simp
       with_reducible rfl
      rotate_left
      ·simp only [Act.put, y1_, y2_, y3_, i64_w, i32_w]
       rfl
      refine pure_ (i := 17) (N := some 100) (v := ?_) (a' := ?_) vb44_ rfl rfl (any_of HT_.out (by kernel_rfl)) (fun _ _ _ h => h) (Or.inl ⟨by rfl, ?_⟩) ?_ ?_
      rotate_left
      ·intro w'
       go_simp
       with_reducible rfl
      rotate_left
      ·simp only [Act.put, y1_, y2_, y3_, i64_w, i32_w]
       rfl
      refine pure_ (i := 18) (N := some 101) (v := ?_) (a' := ?_) vb45_ rfl rfl (any_of HT_.out (by kernel_rfl)) (fun _ _ _ h => h) (Or.inl ⟨by rfl, ?_⟩) ?_ ?_
      rotate_left
      ·intro w'
       go_simp
       with_reducible rfl
      rotate_left
      ·simp only [Act.put, y1_, y2_, y3_, i64_w, i32_w]
       rfl
      refine pure_ (i := 19) (N := some 102) (v := ?_) (a' := ?_) vb46_ rfl rfl (any_of HT_.out (by kernel_rfl)) (fun _ _ _ h => h) (Or.inl ⟨by rfl, ?_⟩) ?_ ?_
      rotate_left
      ·intro w'
       go_simp
       with_reducible rfl
      rotate_left
      ·simp only [Act.put, y1_, y2_, y3_, i64_w, i32_w]
       rfl
      refine pure_ (i := 21) (N := some 104) (v := ?_) (a' := ?_) vb47_ rfl rfl (any_of HT_.out (by kernel_rfl)) (fun _ _ _ h => h) (Or.inl ⟨by rfl, ?_⟩) ?_ ?_
      rotate_left
      ·intro w'
       go_simp
       with_reducible rfl
      rotate_left
      ·simp only [Act.put, y1_, y2_, y3_, i64_w, i32_w]
       rfl
      refine pure_ (i := 22) (N := some 105) (v := ?_) (a' := ?_) vb48_ rfl rfl (any_of HT_.out (by kernel_rfl)) (fun _ _ _ h => h) (Or.inl ⟨by rfl, ?_⟩) ?_ ?_
      rotate_left
      ·intro w'
       go_simp
       with_reducible rfl
      rotate_left
      ·simp only [Act.put, y1_, y2_, y3_, i64_w, i32_w]
       rfl
      refine pure_ (i := 23) (N := some 106) (v := ?_) (a' := ?_) vb49_ rfl rfl (any_of HT_.out (by kernel_rfl)) (fun _ _ _ h => h) (Or.inl ⟨by rfl, ?_⟩) ?_ ?_
      rotate_left
      ·intro w'
       go_simp
       with_reducible rfl
      rotate_left
      ·simp only [Act.put, y1_, y2_, y3_, i64_w, i32_w]
       rfl
      refine take_ (i := 24) (N := some 107) (v := ?_) (a' := ?_) vb50_ rfl rfl (take_ofW HT_.out HW_.out (by kernel_rfl)) (fun _ _ _ h => h) (Or.inl ⟨by rfl, ?_⟩) hHeld ?_ ?_
      rotate_left
      ·rintro w' ⟨s0, s1, s2⟩
       go_simp
       with_reducible rfl
      rotate_left
      ·simp only [Act.put, y1_, y2_, y3_, i64_w, i32_w]
       rfl
      refine pure_ (i := 25) (N := some 108) (v := ?_) (a' := ?_) vb51_ rfl rfl (any_of HT_.out (by kernel_rfl)) (fun _ _ _ h => h) (Or.inl ⟨by rfl, ?_⟩) ?_ ?_
      rotate_left
      ·intro w'
       go_simp
       with_reducible rfl
      rotate_left
      ·simp only [Act.put, y1_, y2_, y3_, i64_w, i32_w]
       rfl
      refine one_ (i := 20) (N := some 103) vb52_ rfl rfl (one_of HT_.out (by kernel_rfl)) (by decide) (fun K hK => ?_)
      refine goes_ Try.func31 (by kernel_rfl) rfl #[.pointer (some ⟨g142, 0, none⟩)] (by rfl) rfl rfl (by (try simp only [List.map_toArray, List.map_cons, List.map_nil]); first | done | rfl | (simp only [List.length_drop, List.length_take]; rfl)) ?_
      with_reducible refine (token_Token_Soft.calls g142 t183 t184 t185 t186 t187 t188 t189 w _ ?side1 ?side2 A55.out).mono ?_
      (case side1 => repeat (first | (with_reducible first | exact HI142.out | apply IsS66.alloc | apply IsS66.drewN | apply IsS66.drew | apply IsS66.set_0 | apply IsS66.set_1 | apply IsS66.set_2 | refine IsS66.far ?_ NB142_145.out _ | refine IsS66.far ?_ NB142_143.out _) | exact HI142.out))
      (case side2 => repeat (first | (with_reducible first | exact HB.out | apply below_alloc | apply pw_below_drewN | apply below_drew1 | refine below_set ?_ (IsS66.ge HI142.out) | refine below_set ?_ (IsS55.ge HI143.out) | refine below_set ?_ GE145.out | refine below_set ?_ GE143.out) | exact HB.out))
      rintro e w61 ⟨rfl, hi, hb, hk⟩
      refine ⟨_, rfl, ?_⟩
      have n0_ := Aside0.mk (KeepBut.blk hk (g' := gb145) (o := .cells #[.int .i64 ((rd_T49 l0 x25_1).f0), .int .i64 ((rd_T49 l0 x25_1).f1), .bool ((rd_T49 l0 x25_1).f2)] 49 (0, 0)) (by (with_reducible repeat (first | refine blk_drewN ?_ _ | refine blk_drew ?_ | refine blk_alloc ?_ _)); exact BK145.out) NB145_142.out (by simp))
      have n1_ := Aside0.mk ((show IsS55 w w61 gb143 x144000_13 x144001_13 x144002_13 from ⟨KeepBut.blk hk (show IsS55 w _ gb143 x144000_13 x144001_13 x144002_13 from by repeat (first | (with_reducible first | exact HI143.out | apply IsS55.alloc | apply IsS55.drewN | apply IsS55.drew | apply IsS55.set_0 | apply IsS55.set_1 | apply IsS55.set_2 | refine IsS55.far ?_ NB143_145.out _ | refine IsS55.far ?_ NB143_143.out _) | exact HI143.out)).1 NB143_142.out (by simp), (show IsS55 w _ gb143 x144000_13 x144001_13 x144002_13 from by repeat (first | (with_reducible first | exact HI143.out | apply IsS55.alloc | apply IsS55.drewN | apply IsS55.drew | apply IsS55.set_0 | apply IsS55.set_1 | apply IsS55.set_2 | refine IsS55.far ?_ NB143_145.out _ | refine IsS55.far ?_ NB143_143.out _) | exact HI143.out)).2⟩))
      have n2_ := Aside0.mk (KeepBut.blk hk (g' := gb143) (o := .cells #[.int .i64 x144000_13, .bool x144001_13, .int .i64 x144002_13] 55 (0, 0)) (by (with_reducible repeat (first | refine blk_drewN ?_ _ | refine blk_drew ?_ | refine blk_alloc ?_ _)); exact BS143.out) NB143_142.out (by simp))
      have n3_ := Aside0.mk (hb)
      have n4_ := Aside0.mk (hi)
      clear BK145 HI143 BS143 HB HI142
      have BK145 := n0_
      have HI143 := n1_
      have BS143 := n2_
      have HB := n3_
      have HI142 := n4_
      clear n0_ n1_ n2_ n3_ n4_
      (try clear hb); (try clear hb2)
      (try clear hk); (try clear hi)
      refine hK.out _ _ ⟨(blk_cell BS143.out 0).trans rfl, (blk_cell BS143.out 1).trans rfl, (blk_cell BS143.out 2).trans rfl⟩ (fun hHeld => ?_)
      clear hK K
      refine norm_ (a' := ?_) ?_ ?_
      rotate_left
      ·show Act.put _ (some 103) _ = _
       simp only [Act.put, y1_, y2_, y3_, i64_w, i32_w]
       rfl
      refine pure_ (i := 26) (N := some 109) (v := ?_) (a' := ?_) vb53_ rfl rfl (any_of HT_.out (by kernel_rfl)) (fun _ _ _ h => h) (Or.inl ⟨by rfl, ?_⟩) ?_ ?_
      rotate_left
      ·intro w'
       go_simp
       with_reducible rfl
      rotate_left
      ·simp only [Act.put, y1_, y2_, y3_, i64_w, i32_w]
       rfl
      refine pure_ (i := 27) (N := some 110) (v := ?_) (a' := ?_) vb54_ rfl rfl (any_of HT_.out (by kernel_rfl)) (fun _ _ _ h => h) (Or.inl ⟨by rfl, ?_⟩) ?_ ?_
      rotate_left
      ·intro w'
       go_simp
       with_reducible rfl
      rotate_left
      ·simp only [Act.put, y1_, y2_, y3_, i64_w, i32_w]
       rfl
      refine pure_ (i := 28) (N := some 111) (v := ?_) (a' := ?_) vb55_ rfl rfl (any_of HT_.out (by kernel_rfl)) (fun _ _ _ h => h) (Or.inl ⟨by rfl, ?_⟩) ?_ ?_
      rotate_left
      ·intro w'
       go_simp
       with_reducible rfl
      rotate_left
      ·simp only [Act.put, y1_, y2_, y3_, i64_w, i32_w]
       rfl
      refine pure_ (i := 29) (N := some 112) (v := ?_) (a' := ?_) vb56_ rfl rfl (any_of HT_.out (by kernel_rfl)) (fun _ _ _ h => h) (Or.inl ⟨by rfl, ?_⟩) ?_ ?_
      rotate_left
      ·intro w'
       go_simp
       with_reducible rfl
      rotate_left
      ·simp only [Act.put, y1_, y2_, y3_, i64_w, i32_w]
       rfl
      refine take_ (i := 30) (N := some 113) (v := ?_) (a' := ?_) vb57_ rfl rfl (take_ofW HT_.out HW_.out (by kernel_rfl)) (fun _ _ _ h => h) (Or.inl ⟨by rfl, ?_⟩) hHeld ?_ ?_
      rotate_left
      ·rintro w' ⟨s0, s1, s2⟩
       go_simp
       with_reducible rfl
      rotate_left
      ·simp only [Act.put, y1_, y2_, y3_, i64_w, i32_w]
       rfl
      refine pure_ (i := 31) (N := some 114) (v := ?_) (a' := ?_) vb58_ rfl rfl (any_of HT_.out (by kernel_rfl)) (fun _ _ _ h => h) (Or.inl ⟨by rfl, ?_⟩) ?_ ?_
      rotate_left
      ·intro w'
       go_simp
       with_reducible rfl
      rotate_left
      ·simp only [Act.put, y1_, y2_, y3_, i64_w, i32_w]
       rfl
      refine pure_ (i := 32) (N := some 115) (v := ?_) (a' := ?_) vb59_ rfl rfl (any_of HT_.out (by kernel_rfl)) (fun _ _ _ h => h) (Or.inl ⟨by rfl, ?_⟩) ?_ ?_
      rotate_left
      ·intro w'
       go_simp
       with_reducible rfl
      rotate_left
      ·simp only [Act.put, y1_, y2_, y3_, i64_w, i32_w]
       rfl
      refine pure_ (i := 33) (N := some 116) (v := ?_) (a' := ?_) vb60_ rfl rfl (any_of HT_.out (by kernel_rfl)) (fun _ _ _ h => h) (Or.inl ⟨by rfl, ?_⟩) ?_ ?_
      rotate_left
      ·intro w'
       go_simp
       with_reducible rfl
      rotate_left
      ·simp only [Act.put, y1_, y2_, y3_, i64_w, i32_w]
       rfl
      refine pure_ (i := 34) (N := some 117) (v := ?_) (a' := ?_) vb61_ rfl rfl (any_of HT_.out (by kernel_rfl)) (fun _ _ _ h => h) (Or.inl ⟨by rfl, ?_⟩) ?_ ?_
      rotate_left
      ·intro w'
       go_simp
       with_reducible rfl
      rotate_left
      ·simp only [Act.put, y1_, y2_, y3_, i64_w, i32_w]
       rfl
      refine pure_ (i := 35) (N := some 118) (v := ?_) (a' := ?_) vb62_ rfl rfl (any_of HT_.out (by kernel_rfl)) (fun _ _ _ h => h) (Or.inl ⟨by rfl, ?_⟩) ?_ ?_
      rotate_left
      ·intro w'
       go_simp
       with_reducible rfl
      rotate_left
      ·simp only [Act.put, y1_, y2_, y3_, i64_w, i32_w]
       rfl
      refine pure_ (i := 36) (N := some 119) (v := ?_) (a' := ?_) vb63_ rfl rfl (any_of HT_.out (by kernel_rfl)) (fun _ _ _ h => h) (Or.inl ⟨by rfl, ?_⟩) ?_ ?_
      rotate_left
      ·intro w'
       go_simp
       with_reducible rfl
      rotate_left
      ·simp only [Act.put, y1_, y2_, y3_, i64_w, i32_w]
       rfl
      refine pure_ (i := 37) (N := some 120) (v := ?_) (a' := ?_) vb64_ rfl rfl (any_of HT_.out (by kernel_rfl)) (fun _ _ _ h => h) (Or.inl ⟨by rfl, ?_⟩) ?_ ?_
      rotate_left
      ·intro w'
       go_simp
       with_reducible rfl
      rotate_left
      ·simp only [Act.put, y1_, y2_, y3_, i64_w, i32_w]
       rfl
      refine pure_ (i := 38) (N := some 121) (v := ?_) (a' := ?_) vb65_ rfl rfl (any_of HT_.out (by kernel_rfl)) (fun _ _ _ h => h) (Or.inl ⟨by rfl, ?_⟩) ?_ ?_
      rotate_left
      ·intro w'
       go_simp
       with_reducible rfl
      rotate_left
      ·simp only [Act.put, y1_, y2_, y3_, i64_w, i32_w]
       rfl
      refine pure_ (i := 39) (N := some 122) (v := ?_) (a' := ?_) vb66_ rfl rfl (any_of HT_.out (by kernel_rfl)) (fun _ _ _ h => h) (Or.inl ⟨by rfl, ?_⟩) ?_ ?_
      rotate_left
      ·intro w'
       go_simp
       with_reducible rfl
      rotate_left
      ·simp only [Act.put, y1_, y2_, y3_, i64_w, i32_w]
       rfl
      refine pure_ (i := 40) (N := some 123) (v := ?_) (a' := ?_) vb67_ rfl rfl (any_of HT_.out (by kernel_rfl)) (fun _ _ _ h => h) (Or.inl ⟨by rfl, ?_⟩) ?_ ?_
      rotate_left
      ·intro w'
       go_simp
       with_reducible rfl
      rotate_left
      ·simp only [Act.put, y1_, y2_, y3_, i64_w, i32_w]
       rfl
      refine pure_ (i := 41) (N := some 124) (v := ?_) (a' := ?_) vb68_ rfl rfl (any_of HT_.out (by kernel_rfl)) (fun _ _ _ h => h) (Or.inl ⟨by rfl, ?_⟩) ?_ ?_
      rotate_left
      ·intro w'
       go_simp
       with_reducible rfl
      rotate_left
      ·simp only [Act.put, y1_, y2_, y3_, i64_w, i32_w]
       rfl
      refine pure_ (i := 42) (N := some 125) (v := ?_) (a' := ?_) vb69_ rfl rfl (any_of HT_.out (by kernel_rfl)) (fun _ _ _ h => h) (Or.inl ⟨by rfl, ?_⟩) ?_ ?_
      rotate_left
      ·intro w'
       go_simp
       with_reducible rfl
      rotate_left
      ·simp only [Act.put, y1_, y2_, y3_, i64_w, i32_w]
       rfl
      refine pure_ (i := 43) (N := some 126) (v := ?_) (a' := ?_) vb70_ rfl rfl (any_of HT_.out (by kernel_rfl)) (fun _ _ _ h => h) (Or.inl ⟨by rfl, ?_⟩) ?_ ?_
      rotate_left
      ·intro w'
       go_simp
       with_reducible rfl
      rotate_left
      ·simp only [Act.put, y1_, y2_, y3_, i64_w, i32_w]
       rfl
      refine pure_ (i := 44) (N := some 127) (v := ?_) (a' := ?_) vb71_ rfl rfl (any_of HT_.out (by kernel_rfl)) (fun _ _ _ h => h) (Or.inl ⟨by rfl, ?_⟩) ?_ ?_
      rotate_left
      ·intro w'
       go_simp
       with_reducible rfl
      rotate_left
      ·simp only [Act.put, y1_, y2_, y3_, i64_w, i32_w]
       rfl
      refine pure_ (i := 45) (N := some 128) (v := ?_) (a' := ?_) vb72_ rfl rfl (any_of HT_.out (by kernel_rfl)) (fun _ _ _ h => h) (Or.inl ⟨by rfl, ?_⟩) ?_ ?_
      rotate_left
      ·intro w'
       go_simp
       with_reducible rfl
      rotate_left
      ·simp only [Act.put, y1_, y2_, y3_, i64_w, i32_w]
       rfl
      refine pure_ (i := 46) (N := some 129) (v := ?_) (a' := ?_) vb73_ rfl rfl (any_of HT_.out (by kernel_rfl)) (fun _ _ _ h => h) (Or.inl ⟨by rfl, ?_⟩) ?_ ?_
      rotate_left
      ·intro w'
       go_simp
       with_reducible rfl
      rotate_left
      ·simp only [Act.put, y1_, y2_, y3_, i64_w, i32_w]
       rfl
      refine pure_ (i := 47) (N := some 130) (v := ?_) (a' := ?_) vb74_ rfl rfl (any_of HT_.out (by kernel_rfl)) (fun _ _ _ h => h) (Or.inl ⟨by rfl, ?_⟩) ?_ ?_
      rotate_left
      ·intro w'
       go_simp
       with_reducible rfl
      rotate_left
      ·simp only [Act.put, y1_, y2_, y3_, i64_w, i32_w]
       rfl
      refine done_ (done_of HT_.out (by kernel_rfl)) ?_
      try go_wp2
      go_meet
      case rel => exact ⟨_, ((t178 != t182)), (t187), (t188), (t189), (by first | rfl | (simp; done) | (simp [*]; done)), H', ⟨by have := HK1.out; have := HJ13.out; first | omega | exact Nat.le_refl _⟩, ⟨by (with_reducible repeat (first | refine blk_drewN ?_ _ | refine blk_drew ?_ | refine blk_alloc ?_ _)); exact BK145.out⟩, ⟨by repeat (first | (with_reducible first | exact HI142.out | apply IsS66.alloc | apply IsS66.drewN | apply IsS66.drew | apply IsS66.set_0 | apply IsS66.set_1 | apply IsS66.set_2 | refine IsS66.far ?_ NB142_145.out _) | exact HI142.out)⟩, ⟨by repeat (first | (with_reducible first | exact HI143.out | apply IsS55.alloc | apply IsS55.drewN | apply IsS55.drew | apply IsS55.set_0 | apply IsS55.set_1 | apply IsS55.set_2 | refine IsS55.far ?_ NB143_145.out _) | exact HI143.out)⟩, ⟨by repeat (first | (with_reducible first | exact HB.out | apply below_alloc | apply pw_below_drewN | apply below_drew1 | refine below_set ?_ (IsS66.ge HI142.out) | refine below_set ?_ (IsS55.ge HI143.out) | refine below_set ?_ GE145.out) | exact HB.out)⟩⟩
     case rest =>
      clear HC49
      try clear p2
      try clear c3
      try clear c5
      try clear c6
      try clear c31
      try clear c52
      try clear c53
      try clear c53b0
      try clear c53b1
      try clear c54
      try clear c54b0
      try clear c54b1
      try clear c67
      try clear c67b0
      obtain ⟨kq, x130_48, x143000_48, x143001_48, x143002_48, rfl, HA, HJ48, BK145, HI142, HI143, HB⟩ := hcut
      cases kq with
      | zero => exact absurd HA.out (by simp [countermandlaw19_TokenDoes.j2])
      | succ kj48 =>
       have H := HA.out
       clear HA
       simp only [countermandlaw19_TokenDoes.j2] at H
       by_cases c75 : x130_48 = true
       ·subst c75
        have H1 : (some false) = some r := by rw [if_pos rfl] at H; exact H
        clear H
        have H := H1
        clear H1
        obtain rfl := Option.some.inj H
        cases hrT
       replace c75 := Bool.eq_false_iff.mpr c75
       subst c75
       have H1 : ((some (([a1, ((rd_T49 l0 x25_1).f1), 0, 1] : List Int) : List Int)).bind fun y190 => (countermandlaw19_TokenDoes.l1 kj48 a1 l0 (l0.length : Int) x25_1 y190 (y190.length : Int) 0 x143000_48 x143001_48 x143002_48 x144000_13 x144001_13 x144002_13)) = some r := by rw [if_neg (show ¬ (false = true) by decide)] at H; exact H
       clear H
       have H := H1
       clear H1
       obtain ⟨y190, hy190⟩ : ∃ y_ : List Int, y_ = (([a1, ((rd_T49 l0 x25_1).f1), 0, 1] : List Int)) := ⟨_, rfl⟩
       replace H : (countermandlaw19_TokenDoes.l1 kj48 a1 l0 (l0.length : Int) x25_1 y190 (y190.length : Int) 0 x143000_48 x143001_48 x143002_48 x144000_13 x144001_13 x144002_13) = some r := by first | (rw [hy190]; with_reducible exact H) | (have H2_ := (Option.bind_some _ _).symm.trans H; rw [hy190]; with_reducible exact H2_) | (have H2_ := (Option.bind_some _ _).symm.trans H; with_reducible exact H2_) | with_reducible exact H | (rw [hy190]; exact H) | exact H
       have Ny190 := Aside0.mk hy190
       clear hy190
       have H' := Aside0.mk H
       clear H
       have hnb76 := NB145_142.out
       have hnc76 := NB142_145.out
       have hnb77 := NB145_143.out
       have hnc77 := NB143_145.out
       have hcz78_0 : wc.cell? ⟨gb145, 0, none⟩ = some (.int .i64 ((rd_T49 l0 x25_1).f0)) := (blk_cell BK145.out 0).trans rfl
       have hcz78_1 : wc.cell? ⟨gb145, 1, none⟩ = some (.int .i64 ((rd_T49 l0 x25_1).f1)) := (blk_cell BK145.out 1).trans rfl
       have hcz78_2 : wc.cell? ⟨gb145, 2, none⟩ = some (.bool ((rd_T49 l0 x25_1).f2)) := (blk_cell BK145.out 2).trans rfl
       have hfz78_0 := blk_frozen BK145.out 0
       have hfz78_1 := blk_frozen BK145.out 1
       have hfz78_2 := blk_frozen BK145.out 2
       go_wp2_with (first | ((with_reducible refine gate_dst (N := 134) rfl ?_); refine Kd.R_lit (Kd.int .i64) _ 3 ?hg (N := 134) ?hd (xs := ([a1, ((rd_T49 l0 x25_1).f1), 0, 1] : List Int)) (inner := [.int .i64 a1, .int .i64 ((rd_T49 l0 x25_1).f1), .int .i64 0, .int .i64 1]) (ok := fun _ => True) (okp := fun _ => True) ?hr ?hp (fun _ hk => hk) trivial (Below.refl _ _) (Nat.le_refl _) (by simp) ?_; (case hd => rfl); (case hg => rfl); (case hr => first | (go_simp; done) | (go_simp; rfl)); (case hp => exact (Reps.one (show Kd.M (Kd.int .i64) _ _ _ a1 [.int .i64 a1] from rfl) (Reps.one (show Kd.M (Kd.int .i64) _ _ _ ((rd_T49 l0 x25_1).f1) [.int .i64 ((rd_T49 l0 x25_1).f1)] from rfl) (Reps.one (show Kd.M (Kd.int .i64) _ _ _ 0 [.int .i64 0] from rfl) (Reps.one (show Kd.M (Kd.int .i64) _ _ _ 1 [.int .i64 1] from rfl) (Reps.none _ _)))))); intro v191 w79 ho80 hb hg_ hnew_; clear hg_ hnew_; (first | rw [← Ny190.out] at ho80 | (simp only [Int.reduceToNat] at ho80; rw [← Ny190.out] at ho80)); have n0_ := Aside0.mk (Kd.R_lower ho80 (below_size (by repeat (first | (with_reducible first | exact HB.out | apply below_alloc | apply pw_below_drewN | apply below_drew1 | refine below_set ?_ (IsS66.ge HI142.out) | refine below_set ?_ (IsS55.ge HI143.out) | refine below_set ?_ GE145.out) | exact HB.out)))); have n1_ := Aside0.mk (blk_below (g := gb145) (o := .cells #[.int .i64 ((rd_T49 l0 x25_1).f0), .int .i64 ((rd_T49 l0 x25_1).f1), .bool ((rd_T49 l0 x25_1).f2)] 49 (0, 0)) (by (with_reducible repeat (first | refine blk_drewN ?_ _ | refine blk_drew ?_ | refine blk_alloc ?_ _)); exact BK145.out) hb); have n2_ := Aside0.mk (IsS66.below (by repeat (first | (with_reducible first | exact HI142.out | apply IsS66.alloc | apply IsS66.drewN | apply IsS66.drew | apply IsS66.set_0 | apply IsS66.set_1 | apply IsS66.set_2 | refine IsS66.far ?_ NB142_145.out _) | exact HI142.out)) hb); have n3_ := Aside0.mk (IsS55.below (by repeat (first | (with_reducible first | exact HI143.out | apply IsS55.alloc | apply IsS55.drewN | apply IsS55.drew | apply IsS55.set_0 | apply IsS55.set_1 | apply IsS55.set_2 | refine IsS55.far ?_ NB143_145.out _) | exact HI143.out)) hb); have n4_ := Aside0.mk (below_step (by repeat (first | (with_reducible first | exact HB.out | apply below_alloc | apply pw_below_drewN | apply below_drew1 | refine below_set ?_ (IsS66.ge HI142.out) | refine below_set ?_ (IsS55.ge HI143.out) | refine below_set ?_ GE145.out) | exact HB.out)) hb); clear BK145; clear HI142; clear HI143; clear HB; have HO192 := n0_; have BK145 := n1_; have HI142 := n2_; have HI143 := n3_; have HB := n4_; clear n0_ n1_ n2_ n3_ n4_; clear hb ho80; obtain ⟨Ao81, co81, eo81⟩ := Kd.R_slice HO192.out; subst eo81))
       go_loopg [136] kj48 (fun kq v136 w' => ∃ (x136_4 : Int) (x143000_4 : Int) (x143001_4 : Bool) (x143002_4 : Int) (x144000_4 : Int) (x144001_4 : Bool) (x144002_4 : Int), v136 = .int .i64 x136_4 ∧ Aside0 (countermandlaw19_TokenDoes.l1 kq a1 l0 (l0.length : Int) x25_1 y190 (y190.length : Int) x136_4 x143000_4 x143001_4 x143002_4 x144000_4 x144001_4 x144002_4 = some r) ∧ Aside0 (kq ≤ kj48) ∧ Aside0 (Kd.R (Kd.int .i64) 3 w' w.heap.size (fun _ => True) (.slice Ao81 y190.length co81) y190) ∧ Aside0 (w'.heap[gb145]? = some (.cells #[.int .i64 ((rd_T49 l0 x25_1).f0), .int .i64 ((rd_T49 l0 x25_1).f1), .bool ((rd_T49 l0 x25_1).f2)] 49 (0, 0))) ∧ Aside0 (IsS66 w w' g142 x143000_4 x143001_4 x143002_4) ∧ Aside0 (IsS55 w w' gb143 x144000_4 x144001_4 x144002_4) ∧ Aside0 (Below w.heap.size w w'))
       case atStart => exact ⟨(0), (x143000_48), (x143001_48), (x143002_48), (x144000_13), (x144001_13), (x144002_13), (by first | rfl | (simp; done) | (simp [*]; done)), H', ⟨Nat.le_refl _⟩, ⟨by (with_reducible repeat (first | apply Kd.R_alloc | apply Kd.R_drewN | apply Kd.R_drew)); exact HO192.out⟩, ⟨by (with_reducible repeat (first | refine blk_drewN ?_ _ | refine blk_drew ?_ | refine blk_alloc ?_ _)); exact BK145.out⟩, ⟨by repeat (first | (with_reducible first | exact HI142.out | apply IsS66.alloc | apply IsS66.drewN | apply IsS66.drew | apply IsS66.set_0 | apply IsS66.set_1 | apply IsS66.set_2 | refine IsS66.far ?_ NB142_145.out _) | exact HI142.out)⟩, ⟨by repeat (first | (with_reducible first | exact HI143.out | apply IsS55.alloc | apply IsS55.drewN | apply IsS55.drew | apply IsS55.set_0 | apply IsS55.set_1 | apply IsS55.set_2 | refine IsS55.far ?_ NB143_145.out _) | exact HI143.out)⟩, ⟨by repeat (first | (with_reducible first | exact HB.out | apply below_alloc | apply pw_below_drewN | apply below_drew1 | refine below_set ?_ (IsS66.ge HI142.out) | refine below_set ?_ (IsS55.ge HI143.out) | refine below_set ?_ GE145.out) | exact HB.out)⟩⟩
       case round =>
        clear H'
        try clear p2
        try clear c3
        try clear c5
        try clear c6
        try clear c7
        try clear c31
        try clear c52
        try clear c53
        try clear c53b0
        try clear c53b1
        try clear c54
        try clear c54b0
        try clear c54b1
        try clear c67
        try clear c67b0
        try clear c75
        try clear c76
        try clear c77
        try clear hcz78_0
        try clear hcz78_1
        try clear hcz78_2
        try clear hfz78_0
        try clear hfz78_1
        try clear hfz78_2
        try clear p2
        obtain ⟨x136_4, x143000_4, x143001_4, x143002_4, x144000_4, x144001_4, x144002_4, rfl, HA, HK4, HO_134, BK145, HI142, HI143, HB⟩ := hrel
        cases gk with
        | zero => exact absurd HA.out (by simp [countermandlaw19_TokenDoes.l1])
        | succ k4 =>
         have H := HA.out
         clear HA
         simp only [countermandlaw19_TokenDoes.l1] at H
         by_cases c82 : x136_4 < (y190.length : Int)
         rotate_left
         ·rw [if_neg c82] at H
          have c82b0 : decide (x136_4 < (y190.length : Int)) = false := decide_eq_false c82
          clear c82
          have H' := Aside0.mk H
          clear H
          go_wp2
          go_roundg k4
          case measure => have := HK1.out; have := HJ13.out; have := HJ48.out; have := HK4.out; omega
          case rel => exact ⟨(wrap64 (x25_1 + 1)), (x143000_4), (x143001_4), (x143002_4), (x144000_4), (x144001_4), (x144002_4), (by first | rfl | (simp; done) | (simp [*]; done)), H', ⟨by have := HK1.out; have := HJ13.out; have := HJ48.out; have := HK4.out; omega⟩, ⟨by repeat (first | (with_reducible first | exact HI142.out | apply IsS66.alloc | apply IsS66.drewN | apply IsS66.drew | apply IsS66.set_0 | apply IsS66.set_1 | apply IsS66.set_2 | refine IsS66.far ?_ NB142_145.out _) | exact HI142.out)⟩, ⟨by repeat (first | (with_reducible first | exact HI143.out | apply IsS55.alloc | apply IsS55.drewN | apply IsS55.drew | apply IsS55.set_0 | apply IsS55.set_1 | apply IsS55.set_2 | refine IsS55.far ?_ NB143_145.out _) | exact HI143.out)⟩, ⟨by repeat (first | (with_reducible first | exact HB.out | apply below_alloc | apply pw_below_drewN | apply below_drew1 | refine below_set ?_ (IsS66.ge HI142.out) | refine below_set ?_ (IsS55.ge HI143.out) | refine below_set ?_ GE145.out) | exact HB.out)⟩⟩
         rw [if_pos c82] at H
         have c82b0 : decide (x136_4 < (y190.length : Int)) = true := decide_eq_true c82
         clear c82
         by_cases c83 : 0 ≤ x136_4
         rotate_left
         ·rw [if_neg c83] at H
          exact absurd H (by simp)
         rw [if_pos c83] at H
         have c83b0 : decide (0 ≤ x136_4) = true := decide_eq_true c83
         clear c83
         by_cases c84 : x136_4 < (y190.length : Int)
         rotate_left
         ·rw [if_neg c84] at H
          exact absurd H (by simp)
         rw [if_pos c84] at H
         have c84b0 : decide (x136_4 < (y190.length : Int)) = true := decide_eq_true c84
         clear c84
         replace H := Option.bind_eq_some_iff.mp H
         obtain ⟨⟨t194, t195, t196, t197⟩, A850, H⟩ := H
         replace H : ((countermandref19_Token_Free.f x144000_4 x144001_4 x144002_4 (rd y190 x136_4)).bind fun bt198 => (if t194 = bt198.1 then ((token_Token_Sure.f t195 t196 t197 (rd y190 x136_4)).bind fun bt202 => (if (rd y190 x136_4) ≥ 0 then (if bt198.2.1 = (rd y190 x136_4) then (if bt202.1 = bt198.2.2.1 then (countermandlaw19_TokenDoes.l1 k4 a1 l0 (l0.length : Int) x25_1 y190 (y190.length : Int) (wrap64 (x136_4 + 1)) bt202.2.1 bt202.2.2.1 bt202.2.2.2 bt198.2.1 bt198.2.2.1 bt198.2.2.2) else (some false)) else (if bt202.1 = true then (some false) else (countermandlaw19_TokenDoes.l1 k4 a1 l0 (l0.length : Int) x25_1 y190 (y190.length : Int) (wrap64 (x136_4 + 1)) bt202.2.1 bt202.2.2.1 bt202.2.2.2 bt198.2.1 bt198.2.2.1 bt198.2.2.2))) else (if bt202.1 = true then (some false) else (countermandlaw19_TokenDoes.l1 k4 a1 l0 (l0.length : Int) x25_1 y190 (y190.length : Int) (wrap64 (x136_4 + 1)) bt202.2.1 bt202.2.2.1 bt202.2.2.2 bt198.2.1 bt198.2.2.1 bt198.2.2.2)))) else (some false))) = some r := H
         have A85 := Aside0.mk A850
         clear A850
         replace H := Option.bind_eq_some_iff.mp H
         obtain ⟨⟨t198, t199, t200, t201⟩, A860, H⟩ := H
         replace H : (if t194 = t198 then ((token_Token_Sure.f t195 t196 t197 (rd y190 x136_4)).bind fun bt202 => (if (rd y190 x136_4) ≥ 0 then (if t199 = (rd y190 x136_4) then (if bt202.1 = t200 then (countermandlaw19_TokenDoes.l1 k4 a1 l0 (l0.length : Int) x25_1 y190 (y190.length : Int) (wrap64 (x136_4 + 1)) bt202.2.1 bt202.2.2.1 bt202.2.2.2 t199 t200 t201) else (some false)) else (if bt202.1 = true then (some false) else (countermandlaw19_TokenDoes.l1 k4 a1 l0 (l0.length : Int) x25_1 y190 (y190.length : Int) (wrap64 (x136_4 + 1)) bt202.2.1 bt202.2.2.1 bt202.2.2.2 t199 t200 t201))) else (if bt202.1 = true then (some false) else (countermandlaw19_TokenDoes.l1 k4 a1 l0 (l0.length : Int) x25_1 y190 (y190.length : Int) (wrap64 (x136_4 + 1)) bt202.2.1 bt202.2.2.1 bt202.2.2.2 t199 t200 t201)))) else (some false)) = some r := H
         have A86 := Aside0.mk A860
         clear A860
         by_cases c87 : t194 = t198
         rotate_left
         ·rw [if_neg c87] at H
          have c87b0 : (t194 == t198) = false := beq_eq_false_iff_ne.mpr c87
          have c87b1 : (t194 != t198) = true := bne_iff_ne.mpr c87
          obtain rfl := Option.some.inj H
          cases hrT
         rw [if_pos c87] at H
         have c87b0 : (t194 == t198) = true := beq_iff_eq.mpr c87
         have c87b1 : (t194 != t198) = false := bne_eq_false_iff_eq.mpr c87
         clear c87
         replace H := Option.bind_eq_some_iff.mp H
         obtain ⟨⟨t202, t203, t204, t205⟩, A880, H⟩ := H
         replace H : (if (rd y190 x136_4) ≥ 0 then (if t199 = (rd y190 x136_4) then (if t202 = t200 then (countermandlaw19_TokenDoes.l1 k4 a1 l0 (l0.length : Int) x25_1 y190 (y190.length : Int) (wrap64 (x136_4 + 1)) t203 t204 t205 t199 t200 t201) else (some false)) else (if t202 = true then (some false) else (countermandlaw19_TokenDoes.l1 k4 a1 l0 (l0.length : Int) x25_1 y190 (y190.length : Int) (wrap64 (x136_4 + 1)) t203 t204 t205 t199 t200 t201))) else (if t202 = true then (some false) else (countermandlaw19_TokenDoes.l1 k4 a1 l0 (l0.length : Int) x25_1 y190 (y190.length : Int) (wrap64 (x136_4 + 1)) t203 t204 t205 t199 t200 t201))) = some r := H
         have A88 := Aside0.mk A880
         clear A880
         by_cases c89 : (rd y190 x136_4) ≥ 0
         rotate_left
         ·rw [if_neg c89] at H
          have c89b0 : decide (0 ≤ (rd y190 x136_4)) = false := decide_eq_false c89
          clear c89
          by_cases c101 : t202 = true
          ·subst c101
           have H1 : (some false) = some r := by rw [if_pos rfl] at H; exact H
           clear H
           have H := H1
           clear H1
           obtain rfl := Option.some.inj H
           cases hrT
          replace c101 := Bool.eq_false_iff.mpr c101
          subst c101
          have H1 : (countermandlaw19_TokenDoes.l1 k4 a1 l0 (l0.length : Int) x25_1 y190 (y190.length : Int) (wrap64 (x136_4 + 1)) t203 t204 t205 t199 t200 t201) = some r := by rw [if_neg (show ¬ (false = true) by decide)] at H; exact H
          clear H
          have H := H1
          clear H1
          have H' := Aside0.mk H
          clear H
          have p193 : 0 ≤ (x136_4 : Int) := of_decide_eq_true (by first | (with_reducible assumption) | assumption)
          have q193 : x136_4 < (y190.length : Int) := of_decide_eq_true (by first | (with_reducible assumption) | assumption)
          try (obtain ⟨Ao193, co193, eo193⟩ := Kd.R_slice HO_134.out; subst eo193)
          obtain ⟨ad193, e193, hx193_0⟩ := Kd.at_int (Kd.R_reads' HO_134.out).2.2 x136_4 p193 q193
          cases e193
          replace p193 := eq_true p193
          replace q193 := eq_true q193
          go_wp2_with (first | ((with_reducible refine gate_callee (f := 34) rfl ?_); refine goesL_ (some 142) rfl rfl Try.func34 (by kernel_rfl) rfl #[.pointer (some ⟨g142, 0, none⟩), .int .i64 (rd y190 x136_4)] rfl (by (try simp only [List.map_toArray, List.map_cons, List.map_nil]); first | done | rfl | (simp only [List.length_drop, List.length_take]; rfl)) ?_; (with_reducible refine (token_Token_Free.calls g142 x143000_4 x143001_4 x143002_4 (rd y190 x136_4) t194 t195 t196 t197 w _ ?side1 ?side2 A85.out).mono ?_); (case side1 => repeat (first | (with_reducible first | exact HI142.out | apply IsS66.alloc | apply IsS66.drewN | apply IsS66.drew | apply IsS66.set_0 | apply IsS66.set_1 | apply IsS66.set_2 | refine IsS66.far ?_ NB142_145.out _) | exact HI142.out)); (case side2 => repeat (first | (with_reducible first | exact HB.out | apply below_alloc | apply pw_below_drewN | apply below_drew1 | refine below_set ?_ (IsS66.ge HI142.out) | refine below_set ?_ (IsS55.ge HI143.out) | refine below_set ?_ GE145.out) | exact HB.out)); rintro e w102 ⟨rfl, hi, hb, hk⟩; refine ⟨_, rfl, ?_⟩; have n0_ := Aside0.mk (Kd.R_mono (Kd.R_keep (IsS66.apart (show IsS66 w _ g142 x143000_4 x143001_4 x143002_4 from by repeat (first | (with_reducible first | exact HI142.out | apply IsS66.alloc | apply IsS66.drewN | apply IsS66.drew | apply IsS66.set_0 | apply IsS66.set_1 | apply IsS66.set_2 | refine IsS66.far ?_ NB142_145.out _) | exact HI142.out)) (by (with_reducible repeat (first | apply Kd.R_alloc | apply Kd.R_drewN | apply Kd.R_drew)); exact HO_134.out) (by decide)) hk (fun _ h => h.2)) (fun _ h => h.1)); have n1_ := Aside0.mk (KeepBut.blk hk (g' := gb145) (o := .cells #[.int .i64 ((rd_T49 l0 x25_1).f0), .int .i64 ((rd_T49 l0 x25_1).f1), .bool ((rd_T49 l0 x25_1).f2)] 49 (0, 0)) (by (with_reducible repeat (first | refine blk_drewN ?_ _ | refine blk_drew ?_ | refine blk_alloc ?_ _)); exact BK145.out) NB145_142.out (by simp)); have n2_ := Aside0.mk ((show IsS55 w w102 gb143 x144000_4 x144001_4 x144002_4 from ⟨KeepBut.blk hk (show IsS55 w _ gb143 x144000_4 x144001_4 x144002_4 from by repeat (first | (with_reducible first | exact HI143.out | apply IsS55.alloc | apply IsS55.drewN | apply IsS55.drew | apply IsS55.set_0 | apply IsS55.set_1 | apply IsS55.set_2 | refine IsS55.far ?_ NB143_145.out _) | exact HI143.out)).1 NB143_142.out (by simp), (show IsS55 w _ gb143 x144000_4 x144001_4 x144002_4 from by repeat (first | (with_reducible first | exact HI143.out | apply IsS55.alloc | apply IsS55.drewN | apply IsS55.drew | apply IsS55.set_0 | apply IsS55.set_1 | apply IsS55.set_2 | refine IsS55.far ?_ NB143_145.out _) | exact HI143.out)).2⟩)); have n3_ := Aside0.mk (hb); have n4_ := Aside0.mk (hi); clear HO_134; clear BK145; clear HI143; clear HB; clear HI142; have HO_134 := n0_; have BK145 := n1_; have HI143 := n2_; have HB := n3_; have HI142 := n4_; clear n0_ n1_ n2_ n3_ n4_; (try clear hb); (try clear hb2); (try clear hk); (try clear hi)) | ((with_reducible refine gate_callee (f := 39) rfl ?_); refine goesL_ (some 145) rfl rfl Try.func39 (by kernel_rfl) rfl #[.pointer (some ⟨gb143, 0, none⟩), .int .i64 (rd y190 x136_4)] rfl (by (try simp only [List.map_toArray, List.map_cons, List.map_nil]); first | done | rfl | (simp only [List.length_drop, List.length_take]; rfl)) ?_; (with_reducible refine (countermandref19_Token_Free.calls gb143 x144000_4 x144001_4 x144002_4 (rd y190 x136_4) t198 t199 t200 t201 w _ ?side1 ?side2 A86.out).mono ?_); (case side1 => repeat (first | (with_reducible first | exact HI143.out | apply IsS55.alloc | apply IsS55.drewN | apply IsS55.drew | apply IsS55.set_0 | apply IsS55.set_1 | apply IsS55.set_2 | refine IsS55.far ?_ NB143_145.out _) | exact HI143.out)); (case side2 => repeat (first | (with_reducible first | exact HB.out | apply below_alloc | apply pw_below_drewN | apply below_drew1 | refine below_set ?_ (IsS66.ge HI142.out) | refine below_set ?_ (IsS55.ge HI143.out) | refine below_set ?_ GE145.out) | exact HB.out)); rintro e w103 ⟨rfl, hi, hb, hk⟩; refine ⟨_, rfl, ?_⟩; have n0_ := Aside0.mk (Kd.R_mono (Kd.R_keep (IsS55.apart (show IsS55 w _ gb143 x144000_4 x144001_4 x144002_4 from by repeat (first | (with_reducible first | exact HI143.out | apply IsS55.alloc | apply IsS55.drewN | apply IsS55.drew | apply IsS55.set_0 | apply IsS55.set_1 | apply IsS55.set_2 | refine IsS55.far ?_ NB143_145.out _) | exact HI143.out)) (by (with_reducible repeat (first | apply Kd.R_alloc | apply Kd.R_drewN | apply Kd.R_drew)); exact HO_134.out) (by decide)) hk (fun _ h => h.2)) (fun _ h => h.1)); have n1_ := Aside0.mk (KeepBut.blk hk (g' := gb145) (o := .cells #[.int .i64 ((rd_T49 l0 x25_1).f0), .int .i64 ((rd_T49 l0 x25_1).f1), .bool ((rd_T49 l0 x25_1).f2)] 49 (0, 0)) (by (with_reducible repeat (first | refine blk_drewN ?_ _ | refine blk_drew ?_ | refine blk_alloc ?_ _)); exact BK145.out) NB145_143.out (by simp)); have n2_ := Aside0.mk ((show IsS66 w w103 g142 t195 t196 t197 from ⟨KeepBut.blk hk (show IsS66 w _ g142 t195 t196 t197 from by repeat (first | (with_reducible first | exact HI142.out | apply IsS66.alloc | apply IsS66.drewN | apply IsS66.drew | apply IsS66.set_0 | apply IsS66.set_1 | apply IsS66.set_2 | refine IsS66.far ?_ NB142_145.out _) | exact HI142.out)).1 NB142_143.out (by simp), (show IsS66 w _ g142 t195 t196 t197 from by repeat (first | (with_reducible first | exact HI142.out | apply IsS66.alloc | apply IsS66.drewN | apply IsS66.drew | apply IsS66.set_0 | apply IsS66.set_1 | apply IsS66.set_2 | refine IsS66.far ?_ NB142_145.out _) | exact HI142.out)).2⟩)); have n3_ := Aside0.mk (hb); have n4_ := Aside0.mk (hi); clear HO_134; clear BK145; clear HI142; clear HB; clear HI143; have HO_134 := n0_; have BK145 := n1_; have HI142 := n2_; have HB := n3_; have HI143 := n4_; clear n0_ n1_ n2_ n3_ n4_; (try clear hb); (try clear hb2); (try clear hk); (try clear hi)) | (go_at_call 30; (with_reducible refine (token_Token_Sure.calls g142 t195 t196 t197 (rd y190 x136_4) false t203 t204 t205 w _ ?side1 ?side2 A88.out).mono ?_); (case side1 => repeat (first | (with_reducible first | exact HI142.out | apply IsS66.alloc | apply IsS66.drewN | apply IsS66.drew | apply IsS66.set_0 | apply IsS66.set_1 | apply IsS66.set_2 | refine IsS66.far ?_ NB142_145.out _) | exact HI142.out)); (case side2 => repeat (first | (with_reducible first | exact HB.out | apply below_alloc | apply pw_below_drewN | apply below_drew1 | refine below_set ?_ (IsS66.ge HI142.out) | refine below_set ?_ (IsS55.ge HI143.out) | refine below_set ?_ GE145.out) | exact HB.out)); rintro e w104 ⟨rfl, hi, hb, hk⟩; have n0_ := Aside0.mk (Kd.R_mono (Kd.R_keep (IsS66.apart (show IsS66 w _ g142 t195 t196 t197 from by repeat (first | (with_reducible first | exact HI142.out | apply IsS66.alloc | apply IsS66.drewN | apply IsS66.drew | apply IsS66.set_0 | apply IsS66.set_1 | apply IsS66.set_2 | refine IsS66.far ?_ NB142_145.out _) | exact HI142.out)) (by (with_reducible repeat (first | apply Kd.R_alloc | apply Kd.R_drewN | apply Kd.R_drew)); exact HO_134.out) (by decide)) hk (fun _ h => h.2)) (fun _ h => h.1)); have n1_ := Aside0.mk (KeepBut.blk hk (g' := gb145) (o := .cells #[.int .i64 ((rd_T49 l0 x25_1).f0), .int .i64 ((rd_T49 l0 x25_1).f1), .bool ((rd_T49 l0 x25_1).f2)] 49 (0, 0)) (by (with_reducible repeat (first | refine blk_drewN ?_ _ | refine blk_drew ?_ | refine blk_alloc ?_ _)); exact BK145.out) NB145_142.out (by simp)); have n2_ := Aside0.mk ((show IsS55 w w104 gb143 t199 t200 t201 from ⟨KeepBut.blk hk (show IsS55 w _ gb143 t199 t200 t201 from by repeat (first | (with_reducible first | exact HI143.out | apply IsS55.alloc | apply IsS55.drewN | apply IsS55.drew | apply IsS55.set_0 | apply IsS55.set_1 | apply IsS55.set_2 | refine IsS55.far ?_ NB143_145.out _) | exact HI143.out)).1 NB143_142.out (by simp), (show IsS55 w _ gb143 t199 t200 t201 from by repeat (first | (with_reducible first | exact HI143.out | apply IsS55.alloc | apply IsS55.drewN | apply IsS55.drew | apply IsS55.set_0 | apply IsS55.set_1 | apply IsS55.set_2 | refine IsS55.far ?_ NB143_145.out _) | exact HI143.out)).2⟩)); have n3_ := Aside0.mk (hb); have n4_ := Aside0.mk (hi); clear HO_134; clear BK145; clear HI143; clear HB; clear HI142; have HO_134 := n0_; have BK145 := n1_; have HI143 := n2_; have HB := n3_; have HI142 := n4_; clear n0_ n1_ n2_ n3_ n4_; (try clear hb); (try clear hb2); (try clear hk); (try clear hi)))
          go_roundg k4
          case measure => have := HK1.out; have := HJ13.out; have := HJ48.out; have := HK4.out; omega
          case rel => exact ⟨(wrap64 (x136_4 + 1)), (t203), (t204), (t205), (t199), (t200), (t201), (by first | rfl | (simp; done) | (simp [*]; done)), H', ⟨by have := HK1.out; have := HJ13.out; have := HJ48.out; have := HK4.out; omega⟩, ⟨by (with_reducible repeat (first | apply Kd.R_alloc | apply Kd.R_drewN | apply Kd.R_drew)); exact HO_134.out⟩, ⟨by (with_reducible repeat (first | refine blk_drewN ?_ _ | refine blk_drew ?_ | refine blk_alloc ?_ _)); exact BK145.out⟩, ⟨by repeat (first | (with_reducible first | exact HI142.out | apply IsS66.alloc | apply IsS66.drewN | apply IsS66.drew | apply IsS66.set_0 | apply IsS66.set_1 | apply IsS66.set_2 | refine IsS66.far ?_ NB142_145.out _) | exact HI142.out)⟩, ⟨by repeat (first | (with_reducible first | exact HI143.out | apply IsS55.alloc | apply IsS55.drewN | apply IsS55.drew | apply IsS55.set_0 | apply IsS55.set_1 | apply IsS55.set_2 | refine IsS55.far ?_ NB143_145.out _) | exact HI143.out)⟩, ⟨by repeat (first | (with_reducible first | exact HB.out | apply below_alloc | apply pw_below_drewN | apply below_drew1 | refine below_set ?_ (IsS66.ge HI142.out) | refine below_set ?_ (IsS55.ge HI143.out) | refine below_set ?_ GE145.out) | exact HB.out)⟩⟩
         rw [if_pos c89] at H
         have c89b0 : decide (0 ≤ (rd y190 x136_4)) = true := decide_eq_true c89
         clear c89
         by_cases c90 : t199 = (rd y190 x136_4)
         ·rw [if_pos c90] at H
          have c90b0 : (t199 == (rd y190 x136_4)) = true := beq_iff_eq.mpr c90
          have c90b1 : (t199 != (rd y190 x136_4)) = false := bne_eq_false_iff_eq.mpr c90
          clear c90
          by_cases c91 : t202 = t200
          rotate_left
          ·rw [if_neg c91] at H
           have c91b0 : (t202 == t200) = false := beq_eq_false_iff_ne.mpr c91
           have c91b1 : (t202 != t200) = true := bne_iff_ne.mpr c91
           obtain rfl := Option.some.inj H
           cases hrT
          rw [if_pos c91] at H
          have c91b0 : (t202 == t200) = true := beq_iff_eq.mpr c91
          have c91b1 : (t202 != t200) = false := bne_eq_false_iff_eq.mpr c91
          clear c91
          have H' := Aside0.mk H
          clear H
          have p193 : 0 ≤ (x136_4 : Int) := of_decide_eq_true (by first | (with_reducible assumption) | assumption)
          have q193 : x136_4 < (y190.length : Int) := of_decide_eq_true (by first | (with_reducible assumption) | assumption)
          try (obtain ⟨Ao193, co193, eo193⟩ := Kd.R_slice HO_134.out; subst eo193)
          obtain ⟨ad193, e193, hx193_0⟩ := Kd.at_int (Kd.R_reads' HO_134.out).2.2 x136_4 p193 q193
          cases e193
          replace p193 := eq_true p193
          replace q193 := eq_true q193
          go_wp2_with (first | ((with_reducible refine gate_callee (f := 34) rfl ?_); refine goesL_ (some 142) rfl rfl Try.func34 (by kernel_rfl) rfl #[.pointer (some ⟨g142, 0, none⟩), .int .i64 (rd y190 x136_4)] rfl (by (try simp only [List.map_toArray, List.map_cons, List.map_nil]); first | done | rfl | (simp only [List.length_drop, List.length_take]; rfl)) ?_; (with_reducible refine (token_Token_Free.calls g142 x143000_4 x143001_4 x143002_4 (rd y190 x136_4) t194 t195 t196 t197 w _ ?side1 ?side2 A85.out).mono ?_); (case side1 => repeat (first | (with_reducible first | exact HI142.out | apply IsS66.alloc | apply IsS66.drewN | apply IsS66.drew | apply IsS66.set_0 | apply IsS66.set_1 | apply IsS66.set_2 | refine IsS66.far ?_ NB142_145.out _) | exact HI142.out)); (case side2 => repeat (first | (with_reducible first | exact HB.out | apply below_alloc | apply pw_below_drewN | apply below_drew1 | refine below_set ?_ (IsS66.ge HI142.out) | refine below_set ?_ (IsS55.ge HI143.out) | refine below_set ?_ GE145.out) | exact HB.out)); rintro e w92 ⟨rfl, hi, hb, hk⟩; refine ⟨_, rfl, ?_⟩; have n0_ := Aside0.mk (Kd.R_mono (Kd.R_keep (IsS66.apart (show IsS66 w _ g142 x143000_4 x143001_4 x143002_4 from by repeat (first | (with_reducible first | exact HI142.out | apply IsS66.alloc | apply IsS66.drewN | apply IsS66.drew | apply IsS66.set_0 | apply IsS66.set_1 | apply IsS66.set_2 | refine IsS66.far ?_ NB142_145.out _) | exact HI142.out)) (by (with_reducible repeat (first | apply Kd.R_alloc | apply Kd.R_drewN | apply Kd.R_drew)); exact HO_134.out) (by decide)) hk (fun _ h => h.2)) (fun _ h => h.1)); have n1_ := Aside0.mk (KeepBut.blk hk (g' := gb145) (o := .cells #[.int .i64 ((rd_T49 l0 x25_1).f0), .int .i64 ((rd_T49 l0 x25_1).f1), .bool ((rd_T49 l0 x25_1).f2)] 49 (0, 0)) (by (with_reducible repeat (first | refine blk_drewN ?_ _ | refine blk_drew ?_ | refine blk_alloc ?_ _)); exact BK145.out) NB145_142.out (by simp)); have n2_ := Aside0.mk ((show IsS55 w w92 gb143 x144000_4 x144001_4 x144002_4 from ⟨KeepBut.blk hk (show IsS55 w _ gb143 x144000_4 x144001_4 x144002_4 from by repeat (first | (with_reducible first | exact HI143.out | apply IsS55.alloc | apply IsS55.drewN | apply IsS55.drew | apply IsS55.set_0 | apply IsS55.set_1 | apply IsS55.set_2 | refine IsS55.far ?_ NB143_145.out _) | exact HI143.out)).1 NB143_142.out (by simp), (show IsS55 w _ gb143 x144000_4 x144001_4 x144002_4 from by repeat (first | (with_reducible first | exact HI143.out | apply IsS55.alloc | apply IsS55.drewN | apply IsS55.drew | apply IsS55.set_0 | apply IsS55.set_1 | apply IsS55.set_2 | refine IsS55.far ?_ NB143_145.out _) | exact HI143.out)).2⟩)); have n3_ := Aside0.mk (hb); have n4_ := Aside0.mk (hi); clear HO_134; clear BK145; clear HI143; clear HB; clear HI142; have HO_134 := n0_; have BK145 := n1_; have HI143 := n2_; have HB := n3_; have HI142 := n4_; clear n0_ n1_ n2_ n3_ n4_; (try clear hb); (try clear hb2); (try clear hk); (try clear hi)) | ((with_reducible refine gate_callee (f := 39) rfl ?_); refine goesL_ (some 145) rfl rfl Try.func39 (by kernel_rfl) rfl #[.pointer (some ⟨gb143, 0, none⟩), .int .i64 (rd y190 x136_4)] rfl (by (try simp only [List.map_toArray, List.map_cons, List.map_nil]); first | done | rfl | (simp only [List.length_drop, List.length_take]; rfl)) ?_; (with_reducible refine (countermandref19_Token_Free.calls gb143 x144000_4 x144001_4 x144002_4 (rd y190 x136_4) t198 t199 t200 t201 w _ ?side1 ?side2 A86.out).mono ?_); (case side1 => repeat (first | (with_reducible first | exact HI143.out | apply IsS55.alloc | apply IsS55.drewN | apply IsS55.drew | apply IsS55.set_0 | apply IsS55.set_1 | apply IsS55.set_2 | refine IsS55.far ?_ NB143_145.out _) | exact HI143.out)); (case side2 => repeat (first | (with_reducible first | exact HB.out | apply below_alloc | apply pw_below_drewN | apply below_drew1 | refine below_set ?_ (IsS66.ge HI142.out) | refine below_set ?_ (IsS55.ge HI143.out) | refine below_set ?_ GE145.out) | exact HB.out)); rintro e w93 ⟨rfl, hi, hb, hk⟩; refine ⟨_, rfl, ?_⟩; have n0_ := Aside0.mk (Kd.R_mono (Kd.R_keep (IsS55.apart (show IsS55 w _ gb143 x144000_4 x144001_4 x144002_4 from by repeat (first | (with_reducible first | exact HI143.out | apply IsS55.alloc | apply IsS55.drewN | apply IsS55.drew | apply IsS55.set_0 | apply IsS55.set_1 | apply IsS55.set_2 | refine IsS55.far ?_ NB143_145.out _) | exact HI143.out)) (by (with_reducible repeat (first | apply Kd.R_alloc | apply Kd.R_drewN | apply Kd.R_drew)); exact HO_134.out) (by decide)) hk (fun _ h => h.2)) (fun _ h => h.1)); have n1_ := Aside0.mk (KeepBut.blk hk (g' := gb145) (o := .cells #[.int .i64 ((rd_T49 l0 x25_1).f0), .int .i64 ((rd_T49 l0 x25_1).f1), .bool ((rd_T49 l0 x25_1).f2)] 49 (0, 0)) (by (with_reducible repeat (first | refine blk_drewN ?_ _ | refine blk_drew ?_ | refine blk_alloc ?_ _)); exact BK145.out) NB145_143.out (by simp)); have n2_ := Aside0.mk ((show IsS66 w w93 g142 t195 t196 t197 from ⟨KeepBut.blk hk (show IsS66 w _ g142 t195 t196 t197 from by repeat (first | (with_reducible first | exact HI142.out | apply IsS66.alloc | apply IsS66.drewN | apply IsS66.drew | apply IsS66.set_0 | apply IsS66.set_1 | apply IsS66.set_2 | refine IsS66.far ?_ NB142_145.out _) | exact HI142.out)).1 NB142_143.out (by simp), (show IsS66 w _ g142 t195 t196 t197 from by repeat (first | (with_reducible first | exact HI142.out | apply IsS66.alloc | apply IsS66.drewN | apply IsS66.drew | apply IsS66.set_0 | apply IsS66.set_1 | apply IsS66.set_2 | refine IsS66.far ?_ NB142_145.out _) | exact HI142.out)).2⟩)); have n3_ := Aside0.mk (hb); have n4_ := Aside0.mk (hi); clear HO_134; clear BK145; clear HI142; clear HB; clear HI143; have HO_134 := n0_; have BK145 := n1_; have HI142 := n2_; have HB := n3_; have HI143 := n4_; clear n0_ n1_ n2_ n3_ n4_; (try clear hb); (try clear hb2); (try clear hk); (try clear hi)) | (go_at_call 30; (with_reducible refine (token_Token_Sure.calls g142 t195 t196 t197 (rd y190 x136_4) t202 t203 t204 t205 w _ ?side1 ?side2 A88.out).mono ?_); (case side1 => repeat (first | (with_reducible first | exact HI142.out | apply IsS66.alloc | apply IsS66.drewN | apply IsS66.drew | apply IsS66.set_0 | apply IsS66.set_1 | apply IsS66.set_2 | refine IsS66.far ?_ NB142_145.out _) | exact HI142.out)); (case side2 => repeat (first | (with_reducible first | exact HB.out | apply below_alloc | apply pw_below_drewN | apply below_drew1 | refine below_set ?_ (IsS66.ge HI142.out) | refine below_set ?_ (IsS55.ge HI143.out) | refine below_set ?_ GE145.out) | exact HB.out)); rintro e w94 ⟨rfl, hi, hb, hk⟩; have n0_ := Aside0.mk (Kd.R_mono (Kd.R_keep (IsS66.apart (show IsS66 w _ g142 t195 t196 t197 from by repeat (first | (with_reducible first | exact HI142.out | apply IsS66.alloc | apply IsS66.drewN | apply IsS66.drew | apply IsS66.set_0 | apply IsS66.set_1 | apply IsS66.set_2 | refine IsS66.far ?_ NB142_145.out _) | exact HI142.out)) (by (with_reducible repeat (first | apply Kd.R_alloc | apply Kd.R_drewN | apply Kd.R_drew)); exact HO_134.out) (by decide)) hk (fun _ h => h.2)) (fun _ h => h.1)); have n1_ := Aside0.mk (KeepBut.blk hk (g' := gb145) (o := .cells #[.int .i64 ((rd_T49 l0 x25_1).f0), .int .i64 ((rd_T49 l0 x25_1).f1), .bool ((rd_T49 l0 x25_1).f2)] 49 (0, 0)) (by (with_reducible repeat (first | refine blk_drewN ?_ _ | refine blk_drew ?_ | refine blk_alloc ?_ _)); exact BK145.out) NB145_142.out (by simp)); have n2_ := Aside0.mk ((show IsS55 w w94 gb143 t199 t200 t201 from ⟨KeepBut.blk hk (show IsS55 w _ gb143 t199 t200 t201 from by repeat (first | (with_reducible first | exact HI143.out | apply IsS55.alloc | apply IsS55.drewN | apply IsS55.drew | apply IsS55.set_0 | apply IsS55.set_1 | apply IsS55.set_2 | refine IsS55.far ?_ NB143_145.out _) | exact HI143.out)).1 NB143_142.out (by simp), (show IsS55 w _ gb143 t199 t200 t201 from by repeat (first | (with_reducible first | exact HI143.out | apply IsS55.alloc | apply IsS55.drewN | apply IsS55.drew | apply IsS55.set_0 | apply IsS55.set_1 | apply IsS55.set_2 | refine IsS55.far ?_ NB143_145.out _) | exact HI143.out)).2⟩)); have n3_ := Aside0.mk (hb); have n4_ := Aside0.mk (hi); clear HO_134; clear BK145; clear HI143; clear HB; clear HI142; have HO_134 := n0_; have BK145 := n1_; have HI143 := n2_; have HB := n3_; have HI142 := n4_; clear n0_ n1_ n2_ n3_ n4_; (try clear hb); (try clear hb2); (try clear hk); (try clear hi); obtain ⟨HGz95, hgz95⟩ := HI143.out; have hcz95_0 := cellS55_0 HGz95; have hcz95_1 := cellS55_1 HGz95; have hcz95_2 := cellS55_2 HGz95; have hfz95_0 := blk_frozen HGz95 0; have hfz95_1 := blk_frozen HGz95 1; have hfz95_2 := blk_frozen HGz95 2; clear HGz95 hgz95))
          go_roundg k4
          case measure => have := HK1.out; have := HJ13.out; have := HJ48.out; have := HK4.out; omega
          case rel => exact ⟨(wrap64 (x136_4 + 1)), (t203), (t204), (t205), (t199), (t200), (t201), (by first | rfl | (simp; done) | (simp [*]; done)), H', ⟨by have := HK1.out; have := HJ13.out; have := HJ48.out; have := HK4.out; omega⟩, ⟨by (with_reducible repeat (first | apply Kd.R_alloc | apply Kd.R_drewN | apply Kd.R_drew)); exact HO_134.out⟩, ⟨by (with_reducible repeat (first | refine blk_drewN ?_ _ | refine blk_drew ?_ | refine blk_alloc ?_ _)); exact BK145.out⟩, ⟨by repeat (first | (with_reducible first | exact HI142.out | apply IsS66.alloc | apply IsS66.drewN | apply IsS66.drew | apply IsS66.set_0 | apply IsS66.set_1 | apply IsS66.set_2 | refine IsS66.far ?_ NB142_145.out _) | exact HI142.out)⟩, ⟨by repeat (first | (with_reducible first | exact HI143.out | apply IsS55.alloc | apply IsS55.drewN | apply IsS55.drew | apply IsS55.set_0 | apply IsS55.set_1 | apply IsS55.set_2 | refine IsS55.far ?_ NB143_145.out _) | exact HI143.out)⟩, ⟨by repeat (first | (with_reducible first | exact HB.out | apply below_alloc | apply pw_below_drewN | apply below_drew1 | refine below_set ?_ (IsS66.ge HI142.out) | refine below_set ?_ (IsS55.ge HI143.out) | refine below_set ?_ GE145.out) | exact HB.out)⟩⟩
         rw [if_neg c90] at H
         have c90b0 : (t199 == (rd y190 x136_4)) = false := beq_eq_false_iff_ne.mpr c90
         have c90b1 : (t199 != (rd y190 x136_4)) = true := bne_iff_ne.mpr c90
         by_cases c96 : t202 = true
         ·subst c96
          have H1 : (some false) = some r := by rw [if_pos rfl] at H; exact H
          clear H
          have H := H1
          clear H1
          obtain rfl := Option.some.inj H
          cases hrT
         replace c96 := Bool.eq_false_iff.mpr c96
         subst c96
         have H1 : (countermandlaw19_TokenDoes.l1 k4 a1 l0 (l0.length : Int) x25_1 y190 (y190.length : Int) (wrap64 (x136_4 + 1)) t203 t204 t205 t199 t200 t201) = some r := by rw [if_neg (show ¬ (false = true) by decide)] at H; exact H
         clear H
         have H := H1
         clear H1
         have H' := Aside0.mk H
         clear H
         have p193 : 0 ≤ (x136_4 : Int) := of_decide_eq_true (by first | (with_reducible assumption) | assumption)
         have q193 : x136_4 < (y190.length : Int) := of_decide_eq_true (by first | (with_reducible assumption) | assumption)
         try (obtain ⟨Ao193, co193, eo193⟩ := Kd.R_slice HO_134.out; subst eo193)
         obtain ⟨ad193, e193, hx193_0⟩ := Kd.at_int (Kd.R_reads' HO_134.out).2.2 x136_4 p193 q193
         cases e193
         replace p193 := eq_true p193
         replace q193 := eq_true q193
         go_wp2_with (first | ((with_reducible refine gate_callee (f := 34) rfl ?_); refine goesL_ (some 142) rfl rfl Try.func34 (by kernel_rfl) rfl #[.pointer (some ⟨g142, 0, none⟩), .int .i64 (rd y190 x136_4)] rfl (by (try simp only [List.map_toArray, List.map_cons, List.map_nil]); first | done | rfl | (simp only [List.length_drop, List.length_take]; rfl)) ?_; (with_reducible refine (token_Token_Free.calls g142 x143000_4 x143001_4 x143002_4 (rd y190 x136_4) t194 t195 t196 t197 w _ ?side1 ?side2 A85.out).mono ?_); (case side1 => repeat (first | (with_reducible first | exact HI142.out | apply IsS66.alloc | apply IsS66.drewN | apply IsS66.drew | apply IsS66.set_0 | apply IsS66.set_1 | apply IsS66.set_2 | refine IsS66.far ?_ NB142_145.out _) | exact HI142.out)); (case side2 => repeat (first | (with_reducible first | exact HB.out | apply below_alloc | apply pw_below_drewN | apply below_drew1 | refine below_set ?_ (IsS66.ge HI142.out) | refine below_set ?_ (IsS55.ge HI143.out) | refine below_set ?_ GE145.out) | exact HB.out)); rintro e w97 ⟨rfl, hi, hb, hk⟩; refine ⟨_, rfl, ?_⟩; have n0_ := Aside0.mk (Kd.R_mono (Kd.R_keep (IsS66.apart (show IsS66 w _ g142 x143000_4 x143001_4 x143002_4 from by repeat (first | (with_reducible first | exact HI142.out | apply IsS66.alloc | apply IsS66.drewN | apply IsS66.drew | apply IsS66.set_0 | apply IsS66.set_1 | apply IsS66.set_2 | refine IsS66.far ?_ NB142_145.out _) | exact HI142.out)) (by (with_reducible repeat (first | apply Kd.R_alloc | apply Kd.R_drewN | apply Kd.R_drew)); exact HO_134.out) (by decide)) hk (fun _ h => h.2)) (fun _ h => h.1)); have n1_ := Aside0.mk (KeepBut.blk hk (g' := gb145) (o := .cells #[.int .i64 ((rd_T49 l0 x25_1).f0), .int .i64 ((rd_T49 l0 x25_1).f1), .bool ((rd_T49 l0 x25_1).f2)] 49 (0, 0)) (by (with_reducible repeat (first | refine blk_drewN ?_ _ | refine blk_drew ?_ | refine blk_alloc ?_ _)); exact BK145.out) NB145_142.out (by simp)); have n2_ := Aside0.mk ((show IsS55 w w97 gb143 x144000_4 x144001_4 x144002_4 from ⟨KeepBut.blk hk (show IsS55 w _ gb143 x144000_4 x144001_4 x144002_4 from by repeat (first | (with_reducible first | exact HI143.out | apply IsS55.alloc | apply IsS55.drewN | apply IsS55.drew | apply IsS55.set_0 | apply IsS55.set_1 | apply IsS55.set_2 | refine IsS55.far ?_ NB143_145.out _) | exact HI143.out)).1 NB143_142.out (by simp), (show IsS55 w _ gb143 x144000_4 x144001_4 x144002_4 from by repeat (first | (with_reducible first | exact HI143.out | apply IsS55.alloc | apply IsS55.drewN | apply IsS55.drew | apply IsS55.set_0 | apply IsS55.set_1 | apply IsS55.set_2 | refine IsS55.far ?_ NB143_145.out _) | exact HI143.out)).2⟩)); have n3_ := Aside0.mk (hb); have n4_ := Aside0.mk (hi); clear HO_134; clear BK145; clear HI143; clear HB; clear HI142; have HO_134 := n0_; have BK145 := n1_; have HI143 := n2_; have HB := n3_; have HI142 := n4_; clear n0_ n1_ n2_ n3_ n4_; (try clear hb); (try clear hb2); (try clear hk); (try clear hi)) | ((with_reducible refine gate_callee (f := 39) rfl ?_); refine goesL_ (some 145) rfl rfl Try.func39 (by kernel_rfl) rfl #[.pointer (some ⟨gb143, 0, none⟩), .int .i64 (rd y190 x136_4)] rfl (by (try simp only [List.map_toArray, List.map_cons, List.map_nil]); first | done | rfl | (simp only [List.length_drop, List.length_take]; rfl)) ?_; (with_reducible refine (countermandref19_Token_Free.calls gb143 x144000_4 x144001_4 x144002_4 (rd y190 x136_4) t198 t199 t200 t201 w _ ?side1 ?side2 A86.out).mono ?_); (case side1 => repeat (first | (with_reducible first | exact HI143.out | apply IsS55.alloc | apply IsS55.drewN | apply IsS55.drew | apply IsS55.set_0 | apply IsS55.set_1 | apply IsS55.set_2 | refine IsS55.far ?_ NB143_145.out _) | exact HI143.out)); (case side2 => repeat (first | (with_reducible first | exact HB.out | apply below_alloc | apply pw_below_drewN | apply below_drew1 | refine below_set ?_ (IsS66.ge HI142.out) | refine below_set ?_ (IsS55.ge HI143.out) | refine below_set ?_ GE145.out) | exact HB.out)); rintro e w98 ⟨rfl, hi, hb, hk⟩; refine ⟨_, rfl, ?_⟩; have n0_ := Aside0.mk (Kd.R_mono (Kd.R_keep (IsS55.apart (show IsS55 w _ gb143 x144000_4 x144001_4 x144002_4 from by repeat (first | (with_reducible first | exact HI143.out | apply IsS55.alloc | apply IsS55.drewN | apply IsS55.drew | apply IsS55.set_0 | apply IsS55.set_1 | apply IsS55.set_2 | refine IsS55.far ?_ NB143_145.out _) | exact HI143.out)) (by (with_reducible repeat (first | apply Kd.R_alloc | apply Kd.R_drewN | apply Kd.R_drew)); exact HO_134.out) (by decide)) hk (fun _ h => h.2)) (fun _ h => h.1)); have n1_ := Aside0.mk (KeepBut.blk hk (g' := gb145) (o := .cells #[.int .i64 ((rd_T49 l0 x25_1).f0), .int .i64 ((rd_T49 l0 x25_1).f1), .bool ((rd_T49 l0 x25_1).f2)] 49 (0, 0)) (by (with_reducible repeat (first | refine blk_drewN ?_ _ | refine blk_drew ?_ | refine blk_alloc ?_ _)); exact BK145.out) NB145_143.out (by simp)); have n2_ := Aside0.mk ((show IsS66 w w98 g142 t195 t196 t197 from ⟨KeepBut.blk hk (show IsS66 w _ g142 t195 t196 t197 from by repeat (first | (with_reducible first | exact HI142.out | apply IsS66.alloc | apply IsS66.drewN | apply IsS66.drew | apply IsS66.set_0 | apply IsS66.set_1 | apply IsS66.set_2 | refine IsS66.far ?_ NB142_145.out _) | exact HI142.out)).1 NB142_143.out (by simp), (show IsS66 w _ g142 t195 t196 t197 from by repeat (first | (with_reducible first | exact HI142.out | apply IsS66.alloc | apply IsS66.drewN | apply IsS66.drew | apply IsS66.set_0 | apply IsS66.set_1 | apply IsS66.set_2 | refine IsS66.far ?_ NB142_145.out _) | exact HI142.out)).2⟩)); have n3_ := Aside0.mk (hb); have n4_ := Aside0.mk (hi); clear HO_134; clear BK145; clear HI142; clear HB; clear HI143; have HO_134 := n0_; have BK145 := n1_; have HI142 := n2_; have HB := n3_; have HI143 := n4_; clear n0_ n1_ n2_ n3_ n4_; (try clear hb); (try clear hb2); (try clear hk); (try clear hi)) | (go_at_call 30; (with_reducible refine (token_Token_Sure.calls g142 t195 t196 t197 (rd y190 x136_4) false t203 t204 t205 w _ ?side1 ?side2 A88.out).mono ?_); (case side1 => repeat (first | (with_reducible first | exact HI142.out | apply IsS66.alloc | apply IsS66.drewN | apply IsS66.drew | apply IsS66.set_0 | apply IsS66.set_1 | apply IsS66.set_2 | refine IsS66.far ?_ NB142_145.out _) | exact HI142.out)); (case side2 => repeat (first | (with_reducible first | exact HB.out | apply below_alloc | apply pw_below_drewN | apply below_drew1 | refine below_set ?_ (IsS66.ge HI142.out) | refine below_set ?_ (IsS55.ge HI143.out) | refine below_set ?_ GE145.out) | exact HB.out)); rintro e w99 ⟨rfl, hi, hb, hk⟩; have n0_ := Aside0.mk (Kd.R_mono (Kd.R_keep (IsS66.apart (show IsS66 w _ g142 t195 t196 t197 from by repeat (first | (with_reducible first | exact HI142.out | apply IsS66.alloc | apply IsS66.drewN | apply IsS66.drew | apply IsS66.set_0 | apply IsS66.set_1 | apply IsS66.set_2 | refine IsS66.far ?_ NB142_145.out _) | exact HI142.out)) (by (with_reducible repeat (first | apply Kd.R_alloc | apply Kd.R_drewN | apply Kd.R_drew)); exact HO_134.out) (by decide)) hk (fun _ h => h.2)) (fun _ h => h.1)); have n1_ := Aside0.mk (KeepBut.blk hk (g' := gb145) (o := .cells #[.int .i64 ((rd_T49 l0 x25_1).f0), .int .i64 ((rd_T49 l0 x25_1).f1), .bool ((rd_T49 l0 x25_1).f2)] 49 (0, 0)) (by (with_reducible repeat (first | refine blk_drewN ?_ _ | refine blk_drew ?_ | refine blk_alloc ?_ _)); exact BK145.out) NB145_142.out (by simp)); have n2_ := Aside0.mk ((show IsS55 w w99 gb143 t199 t200 t201 from ⟨KeepBut.blk hk (show IsS55 w _ gb143 t199 t200 t201 from by repeat (first | (with_reducible first | exact HI143.out | apply IsS55.alloc | apply IsS55.drewN | apply IsS55.drew | apply IsS55.set_0 | apply IsS55.set_1 | apply IsS55.set_2 | refine IsS55.far ?_ NB143_145.out _) | exact HI143.out)).1 NB143_142.out (by simp), (show IsS55 w _ gb143 t199 t200 t201 from by repeat (first | (with_reducible first | exact HI143.out | apply IsS55.alloc | apply IsS55.drewN | apply IsS55.drew | apply IsS55.set_0 | apply IsS55.set_1 | apply IsS55.set_2 | refine IsS55.far ?_ NB143_145.out _) | exact HI143.out)).2⟩)); have n3_ := Aside0.mk (hb); have n4_ := Aside0.mk (hi); clear HO_134; clear BK145; clear HI143; clear HB; clear HI142; have HO_134 := n0_; have BK145 := n1_; have HI143 := n2_; have HB := n3_; have HI142 := n4_; clear n0_ n1_ n2_ n3_ n4_; (try clear hb); (try clear hb2); (try clear hk); (try clear hi); obtain ⟨HGz100, hgz100⟩ := HI143.out; have hcz100_0 := cellS55_0 HGz100; have hcz100_1 := cellS55_1 HGz100; have hcz100_2 := cellS55_2 HGz100; have hfz100_0 := blk_frozen HGz100 0; have hfz100_1 := blk_frozen HGz100 1; have hfz100_2 := blk_frozen HGz100 2; clear HGz100 hgz100))
         go_roundg k4
         case measure => have := HK1.out; have := HJ13.out; have := HJ48.out; have := HK4.out; omega
         case rel => exact ⟨(wrap64 (x136_4 + 1)), (t203), (t204), (t205), (t199), (t200), (t201), (by first | rfl | (simp; done) | (simp [*]; done)), H', ⟨by have := HK1.out; have := HJ13.out; have := HJ48.out; have := HK4.out; omega⟩, ⟨by (with_reducible repeat (first | apply Kd.R_alloc | apply Kd.R_drewN | apply Kd.R_drew)); exact HO_134.out⟩, ⟨by (with_reducible repeat (first | refine blk_drewN ?_ _ | refine blk_drew ?_ | refine blk_alloc ?_ _)); exact BK145.out⟩, ⟨by repeat (first | (with_reducible first | exact HI142.out | apply IsS66.alloc | apply IsS66.drewN | apply IsS66.drew | apply IsS66.set_0 | apply IsS66.set_1 | apply IsS66.set_2 | refine IsS66.far ?_ NB142_145.out _) | exact HI142.out)⟩, ⟨by repeat (first | (with_reducible first | exact HI143.out | apply IsS55.alloc | apply IsS55.drewN | apply IsS55.drew | apply IsS55.set_0 | apply IsS55.set_1 | apply IsS55.set_2 | refine IsS55.far ?_ NB143_145.out _) | exact HI143.out)⟩, ⟨by repeat (first | (with_reducible first | exact HB.out | apply below_alloc | apply pw_below_drewN | apply below_drew1 | refine below_set ?_ (IsS66.ge HI142.out) | refine below_set ?_ (IsS55.ge HI143.out) | refine below_set ?_ GE145.out) | exact HB.out)⟩⟩
/-- THE ONE PURE STATEMENT of countermandlaw19_TokenDoes: yours. -/
def countermandlaw19_TokenDoes.Pure : Prop := ∀ (l0 : List (S49)) (a1 : Int), l0.length ≤ maxLen → (∀ x ∈ l0, (Lit.int .i64 x.f0).wf = true ∧ (Lit.int .i64 x.f1).wf = true) → (Lit.int .i64 a1).wf = true → ∃ k, countermandlaw19_TokenDoes.f k l0 a1 = some true
theorem countermandlaw19_TokenDoes.walk (P : countermandlaw19_TokenDoes.Pure) (a0 : Option Addr) (len0 cap0 : Nat) (z0 : List (S49)) (a1 : Int) (w : World) (w0 : z0.length = len0 ∧ Kd.C k49 w a0 z0.length z0 ∧ z0.length ≤ cap0 ∧ z0.length ≤ maxLen ∧ (∀ x ∈ z0, (Lit.int .i64 x.f0).wf = true ∧ (Lit.int .i64 x.f1).wf = true)) (w1 : (Lit.int .i64 a1).wf = true) :
    Calls Try.prog 10 #[.slice a0 len0 cap0, .int .i64 a1] w fun e w' => e = .returned (.bool true) ∧ Below w.heap.size w w' := by
 obtain ⟨rfl, hr0, hc0, hm0, hg0⟩ := w0
 obtain ⟨k, h⟩ := P z0 a1 hm0 hg0 w1
 refine (countermandlaw19_TokenDoes.calls k _ _ z0 a1 true w hr0 hc0 h rfl).mono ?_
 rintro e w' ⟨rfl, hd⟩
 exact ⟨rfl, hd⟩

end Go.Proofs.Ytfimbmdbaaiemaa.PTokenDoes
