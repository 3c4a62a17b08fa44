-- Written by wip/tools/weave.py out of a printing program's text: the contracts of Lex, Name, Keyword and Join, and the table's premise, are ours.
import Derived.Test.YtapkfblkghoknaaDoorPX0
import Derived.Test.YtapkfblkghoknaaDoorPX2
import Derived.Test.YtapkfblkghoknaaDoorPX3
namespace Go.Proofs.YtapkfblkghoknaaDoor.PX
open Go.RowKit Go.Proofs.YtapkfblkghoknaaDoorW.PrintWords Go.Proofs.YtapkfblkghoknaaDoorW.PrintLast Go.Proofs.YtapkfblkghoknaaDoorW.PrintMore
attribute [local go_sem] max2_int min2_int max_two min_two max_three min_three max_four min_four   -- for this text's walks alone
set_option linter.unusedVariables false
set_option linter.unusedSimpArgs false

/-! ### backsteplaw02_LexerLongest: function 5 -/
mutual
def backsteplaw02_LexerLongest.j0 : Nat → ByteArray → Int → List (S33) → Bool → Option (Bool)
  | 0, _, _, _, _ => none
  | k + 1, x0, x1, x5, x30 => if x30 = true then (some true) else (if (x5.length : Int) = 0 then (none) else (if 0 ≤ (Int.tmod (wrap64 (x1)) (x5.length : Int)) then (if (Int.tmod (wrap64 (x1)) (x5.length : Int)) < (x5.length : Int) then (if ((rd_T33 x5 (Int.tmod (wrap64 (x1)) (x5.length : Int))).f2) < 0 then (backsteplaw02_LexerLongest.j1 k x0 x5 (Int.tmod (wrap64 (x1)) (x5.length : Int)) true) else (backsteplaw02_LexerLongest.j1 k x0 x5 (Int.tmod (wrap64 (x1)) (x5.length : Int)) (decide (((rd_T33 x5 (Int.tmod (wrap64 (x1)) (x5.length : Int))).f2) > (x0.size : Int))))) else (none)) else (none)))
def backsteplaw02_LexerLongest.j1 : Nat → ByteArray → List (S33) → Int → Bool → Option (Bool)
  | 0, _, _, _, _ => none
  | k + 1, x0, x5, x8, x51 => if x51 = true then (some false) else (if 0 ≤ x8 then (if x8 < (x5.length : Int) then (if 0 ≤ ((rd_T33 x5 x8).f2) then (if ((rd_T33 x5 x8).f2) ≤ (x0.size : Int) then ((lexer_Lex.f (x0.extract (((rd_T33 x5 x8).f2) : Int).toNat x0.size)).bind fun bt184 => (if bt184.2.2 = 0 then (backsteplaw02_LexerLongest.j2 k x5 x8 bt184.1 ((bt184.1.length : Int) != (wrap64 ((x5.length : Int) - x8)))) else (backsteplaw02_LexerLongest.j2 k x5 x8 bt184.1 true))) else (none)) else (none)) else (none)) else (none))
def backsteplaw02_LexerLongest.j2 : Nat → List (S33) → Int → List (S33) → Bool → Option (Bool)
  | 0, _, _, _, _ => none
  | k + 1, x5, x8, x9, x74 => if x74 = true then (some false) else (backsteplaw02_LexerLongest.l0 k x5 x8 x9 0)
def backsteplaw02_LexerLongest.l0 : Nat → List (S33) → Int → List (S33) → Int → Option (Bool)
  | 0, _, _, _, _ => none
  | k + 1, x5, x8, x9, x12 => if x12 < (x9.length : Int) then (if 0 ≤ x12 then (if 0 ≤ (wrap64 (x8 + x12)) then (if (wrap64 (x8 + x12)) < (x5.length : Int) then (if ((rd_T33 x9 x12).f0) = ((rd_T33 x5 (wrap64 (x8 + x12))).f0) then (if ((rd_T33 x9 x12).f1).toList = ((rd_T33 x5 (wrap64 (x8 + x12))).f1).toList then (if 0 ≤ x8 then (if x8 < (x5.length : Int) then (if ((rd_T33 x9 x12).f2) = (wrap64 (((rd_T33 x5 (wrap64 (x8 + x12))).f2) - ((rd_T33 x5 x8).f2))) then (backsteplaw02_LexerLongest.l0 k x5 x8 x9 (wrap64 (x12 + 1))) else (some false)) else (none)) else (none)) else (some false)) else (some false)) else (none)) else (none)) else (none)) else (some true)
end
def backsteplaw02_LexerLongest.f (k : Nat) (a0 : ByteArray) (a1 : Int) : Option (Bool) := (backsteplaw02_awake.f).bind fun t175 => (if t175 = true then (if (a0.size : Int) > 200 then (some true) else ((lexer_Lex.f a0).bind fun bt176 => (if bt176.2.2 = 0 then (backsteplaw02_LexerLongest.j0 k a0 a1 bt176.1 ((bt176.1.length : Int) == 0)) else (backsteplaw02_LexerLongest.j0 k a0 a1 bt176.1 true)))) else (some false))
theorem backsteplaw02_LexerLongest.mono_l : ∀ k, (∀ y0 y1 y2 y3, LeO (backsteplaw02_LexerLongest.j0 k y0 y1 y2 y3) (backsteplaw02_LexerLongest.j0 (k + 1) y0 y1 y2 y3)) ∧ (∀ y0 y1 y2 y3, LeO (backsteplaw02_LexerLongest.j1 k y0 y1 y2 y3) (backsteplaw02_LexerLongest.j1 (k + 1) y0 y1 y2 y3)) ∧ (∀ y0 y1 y2 y3, LeO (backsteplaw02_LexerLongest.j2 k y0 y1 y2 y3) (backsteplaw02_LexerLongest.j2 (k + 1) y0 y1 y2 y3)) ∧ (∀ y0 y1 y2 y3, LeO (backsteplaw02_LexerLongest.l0 k y0 y1 y2 y3) (backsteplaw02_LexerLongest.l0 (k + 1) y0 y1 y2 y3))
  | 0 => ⟨fun _ _ _ _ r h => by simp [backsteplaw02_LexerLongest.j0] at h, fun _ _ _ _ r h => by simp [backsteplaw02_LexerLongest.j1] at h, fun _ _ _ _ r h => by simp [backsteplaw02_LexerLongest.j2] at h, fun _ _ _ _ r h => by simp [backsteplaw02_LexerLongest.l0] at h⟩
  | k + 1 => by
    obtain ⟨ih0, ih1, ih2, ih3⟩ := backsteplaw02_LexerLongest.mono_l k
    refine ⟨?_, ?_, ?_, ?_⟩
    · intro y0 y1 y2 y3
      unfold backsteplaw02_LexerLongest.j0
      repeat' first
      | (with_reducible exact ih0 _ _ _ _)
      | (with_reducible exact ih1 _ _ _ _)
      | (with_reducible exact ih2 _ _ _ _)
      | (with_reducible exact ih3 _ _ _ _)
      | (with_reducible exact LeO.refl _)
      | (with_reducible exact LeO.none _)
      | (with_reducible refine LeO.ite ?_ ?_)
      | (with_reducible refine LeO.bind ?_ (fun _ => ?_))
      | exact ih0 _ _ _ _
      | exact ih1 _ _ _ _
      | exact ih2 _ _ _ _
      | exact ih3 _ _ _ _
      | exact LeO.none _
      | refine LeO.ite ?_ ?_
      | refine LeO.bind ?_ (fun _ => ?_)
    · intro y0 y1 y2 y3
      unfold backsteplaw02_LexerLongest.j1
      repeat' first
      | (with_reducible exact ih0 _ _ _ _)
      | (with_reducible exact ih1 _ _ _ _)
      | (with_reducible exact ih2 _ _ _ _)
      | (with_reducible exact ih3 _ _ _ _)
      | (with_reducible exact LeO.refl _)
      | (with_reducible exact LeO.none _)
      | (with_reducible refine LeO.ite ?_ ?_)
      | (with_reducible refine LeO.bind ?_ (fun _ => ?_))
      | exact ih0 _ _ _ _
      | exact ih1 _ _ _ _
      | exact ih2 _ _ _ _
      | exact ih3 _ _ _ _
      | exact LeO.none _
      | refine LeO.ite ?_ ?_
      | refine LeO.bind ?_ (fun _ => ?_)
    · intro y0 y1 y2 y3
      unfold backsteplaw02_LexerLongest.j2
      repeat' first
      | (with_reducible exact ih0 _ _ _ _)
      | (with_reducible exact ih1 _ _ _ _)
      | (with_reducible exact ih2 _ _ _ _)
      | (with_reducible exact ih3 _ _ _ _)
      | (with_reducible exact LeO.refl _)
      | (with_reducible exact LeO.none _)
      | (with_reducible refine LeO.ite ?_ ?_)
      | (with_reducible refine LeO.bind ?_ (fun _ => ?_))
      | exact ih0 _ _ _ _
      | exact ih1 _ _ _ _
      | exact ih2 _ _ _ _
      | exact ih3 _ _ _ _
      | exact LeO.none _
      | refine LeO.ite ?_ ?_
      | refine LeO.bind ?_ (fun _ => ?_)
    · intro y0 y1 y2 y3
      unfold backsteplaw02_LexerLongest.l0
      repeat' first
      | (with_reducible exact ih0 _ _ _ _)
      | (with_reducible exact ih1 _ _ _ _)
      | (with_reducible exact ih2 _ _ _ _)
      | (with_reducible exact ih3 _ _ _ _)
      | (with_reducible exact LeO.refl _)
      | (with_reducible exact LeO.none _)
      | (with_reducible refine LeO.ite ?_ ?_)
      | (with_reducible refine LeO.bind ?_ (fun _ => ?_))
      | exact ih0 _ _ _ _
      | exact ih1 _ _ _ _
      | exact ih2 _ _ _ _
      | exact ih3 _ _ _ _
      | exact LeO.none _
      | refine LeO.ite ?_ ?_
      | refine LeO.bind ?_ (fun _ => ?_)
theorem backsteplaw02_LexerLongest.mono : ∀ a0 a1 k, LeO (backsteplaw02_LexerLongest.f k a0 a1) (backsteplaw02_LexerLongest.f (k + 1) a0 a1) := by
  intro a0 a1 k
  obtain ⟨ih0, ih1, ih2, ih3⟩ := backsteplaw02_LexerLongest.mono_l k
  unfold backsteplaw02_LexerLongest.f
  repeat' first
      | (with_reducible exact ih0 _ _ _ _)
      | (with_reducible exact ih1 _ _ _ _)
      | (with_reducible exact ih2 _ _ _ _)
      | (with_reducible exact ih3 _ _ _ _)
      | (with_reducible exact LeO.refl _)
      | (with_reducible exact LeO.none _)
      | (with_reducible refine LeO.ite ?_ ?_)
      | (with_reducible refine LeO.bind ?_ (fun _ => ?_))
      | exact ih0 _ _ _ _
      | exact ih1 _ _ _ _
      | exact ih2 _ _ _ _
      | exact ih3 _ _ _ _
      | exact LeO.none _
      | refine LeO.ite ?_ ?_
      | refine LeO.bind ?_ (fun _ => ?_)
set_option maxHeartbeats 8000000 in
set_option maxRecDepth 100000 in
theorem backsteplaw02_LexerLongest.calls (k : Nat) (a0 : ByteArray) (a1 : Int) (r : Bool) (w : World) (htab : Tab w) (h : backsteplaw02_LexerLongest.f k a0 a1 = some r) :
    Calls Tryd.prog 5 #[.string a0, .int .u8 a1] w fun e w' => e = .returned (.bool r) ∧ Below w.heap.size w w' := by
  have HTAB := Aside0.mk htab
  clear htab
  have HB := Aside0.mk (Below.refl w.heap.size w)
  have H : ((backsteplaw02_awake.f).bind fun t175 => (if t175 = true then (if (a0.size : Int) > 200 then (some true) else ((lexer_Lex.f a0).bind fun bt176 => (if bt176.2.2 = 0 then (backsteplaw02_LexerLongest.j0 k a0 a1 bt176.1 ((bt176.1.length : Int) == 0)) else (backsteplaw02_LexerLongest.j0 k a0 a1 bt176.1 true)))) else (some false))) = some r := h
  clear h
  replace H := Option.bind_eq_some_iff.mp H
  obtain ⟨t175, A30, H⟩ := H
  replace H : (if t175 = true then (if (a0.size : Int) > 200 then (some true) else ((lexer_Lex.f a0).bind fun bt176 => (if bt176.2.2 = 0 then (backsteplaw02_LexerLongest.j0 k a0 a1 bt176.1 ((bt176.1.length : Int) == 0)) else (backsteplaw02_LexerLongest.j0 k a0 a1 bt176.1 true)))) else (some false)) = some r := H
  have A3 := Aside0.mk A30
  clear A30
  by_cases c4 : t175 = true
  · subst c4
    have H1 : (if (a0.size : Int) > 200 then (some true) else ((lexer_Lex.f a0).bind fun bt176 => (if bt176.2.2 = 0 then (backsteplaw02_LexerLongest.j0 k a0 a1 bt176.1 ((bt176.1.length : Int) == 0)) else (backsteplaw02_LexerLongest.j0 k a0 a1 bt176.1 true)))) = some r := by rw [if_pos rfl] at H; exact H
    clear H
    have H := H1
    clear H1
    by_cases c5 : (a0.size : Int) > 200
    · rw [if_pos c5] at H
      have c5b0 : decide (200 < (a0.size : Int)) = true := decide_eq_true c5
      have c5b1 : decide (200 < a0.size) = true := decide_eq_true (by omega)
      clear c5
      obtain rfl := Option.some.inj H
      go_enter Tryd.func5, Tryd.ntmps5
      go_wp2_with (first | (go_at_call 12; (with_reducible refine (backsteplaw02_awake.calls  true _ (Tab.below HTAB.out (by repeat (first | (with_reducible first | exact HB.out | exact Below.refl _ _ | apply below_alloc | apply pw_below_drewN | apply below_drew1) | exact HB.out))) A3.out).mono ?_); rintro e w6 ⟨rfl, hb⟩; have n0_ := Aside0.mk (below_step (by repeat (first | (with_reducible first | exact HB.out | apply below_alloc | apply pw_below_drewN | apply below_drew1) | exact HB.out)) hb); clear HB; have HB := n0_; clear n0_; (try clear hb); (try clear hb2); (try clear hk); (try clear hi)))
      repeat (go_quiet (first | (go_at_call 12; (with_reducible refine (backsteplaw02_awake.calls  true _ (Tab.below HTAB.out (by repeat (first | (with_reducible first | exact HB.out | exact Below.refl _ _ | apply below_alloc | apply pw_below_drewN | apply below_drew1) | exact HB.out))) A3.out).mono ?_); rintro e w6 ⟨rfl, hb⟩; have n0_ := Aside0.mk (below_step (by repeat (first | (with_reducible first | exact HB.out | apply below_alloc | apply pw_below_drewN | apply below_drew1) | exact HB.out)) hb); clear HB; have HB := n0_; clear n0_; (try clear hb); (try clear hb2); (try clear hk); (try clear hi))); try go_wp2_with (first | (go_at_call 12; (with_reducible refine (backsteplaw02_awake.calls  true _ (Tab.below HTAB.out (by repeat (first | (with_reducible first | exact HB.out | exact Below.refl _ _ | apply below_alloc | apply pw_below_drewN | apply below_drew1) | exact HB.out))) A3.out).mono ?_); rintro e w6 ⟨rfl, hb⟩; have n0_ := Aside0.mk (below_step (by repeat (first | (with_reducible first | exact HB.out | apply below_alloc | apply pw_below_drewN | apply below_drew1) | exact HB.out)) hb); clear HB; have HB := n0_; clear n0_; (try clear hb); (try clear hb2); (try clear hk); (try clear hi))))
      go_ret
      exact ⟨by first | rfl | (simp [errW_none, errW_some] <;> rfl) | (simp [*, errW_none, errW_some] <;> rfl), by repeat (first | (with_reducible first | exact HB.out | apply below_alloc | apply pw_below_drewN | apply below_drew1) | exact HB.out)⟩
    · rw [if_neg c5] at H
      have c5b0 : decide (200 < (a0.size : Int)) = false := decide_eq_false c5
      have c5b1 : decide (200 < a0.size) = false := decide_eq_false (by omega)
      clear c5
      replace H := Option.bind_eq_some_iff.mp H
      obtain ⟨⟨t176, t177, t178⟩, A70, H⟩ := H
      replace H : (if t178 = 0 then (backsteplaw02_LexerLongest.j0 k a0 a1 t176 ((t176.length : Int) == 0)) else (backsteplaw02_LexerLongest.j0 k a0 a1 t176 true)) = some r := H
      have A7 := Aside0.mk A70
      clear A70
      have HC8 := Aside0.mk H
      clear H
      go_enter Tryd.func5, Tryd.ntmps5
      go_upto_region 6 with (first | (go_at_call 12; (with_reducible refine (backsteplaw02_awake.calls  true _ (Tab.below HTAB.out (by repeat (first | (with_reducible first | exact HB.out | exact Below.refl _ _ | apply below_alloc | apply pw_below_drewN | apply below_drew1) | exact HB.out))) A3.out).mono ?_); rintro e w9 ⟨rfl, hb⟩; have n0_ := Aside0.mk (below_step (by repeat (first | (with_reducible first | exact HB.out | apply below_alloc | apply pw_below_drewN | apply below_drew1) | exact HB.out)) hb); clear HB; have HB := n0_; clear n0_; (try clear hb); (try clear hb2); (try clear hk); (try clear hi)) | (go_at_call 13; (with_reducible refine (lexer_Lex.calls a0 t176 t177 t178 _ (Tab.below HTAB.out (by repeat (first | (with_reducible first | exact HB.out | exact Below.refl _ _ | apply below_alloc | apply pw_below_drewN | apply below_drew1) | exact HB.out))) A7.out).mono ?_); rintro e w10 ⟨v179, rfl, ho0, hb⟩; have n0_ := Aside0.mk (Kd.R_lower ho0 (below_size (by repeat (first | (with_reducible first | exact HB.out | apply below_alloc | apply pw_below_drewN | apply below_drew1) | exact HB.out)))); have n1_ := Aside0.mk (below_step (by repeat (first | (with_reducible first | exact HB.out | apply below_alloc | apply pw_below_drewN | apply below_drew1) | exact HB.out)) hb); clear HB; have HO180 := n0_; have HB := n1_; clear n0_ n1_; (try clear hb); (try clear hb2); (try clear hk); (try clear hi); (try clear ho0)))
      repeat (go_quiet (first | (go_at_call 12; (with_reducible refine (backsteplaw02_awake.calls  true _ (Tab.below HTAB.out (by repeat (first | (with_reducible first | exact HB.out | exact Below.refl _ _ | apply below_alloc | apply pw_below_drewN | apply below_drew1) | exact HB.out))) A3.out).mono ?_); rintro e w9 ⟨rfl, hb⟩; have n0_ := Aside0.mk (below_step (by repeat (first | (with_reducible first | exact HB.out | apply below_alloc | apply pw_below_drewN | apply below_drew1) | exact HB.out)) hb); clear HB; have HB := n0_; clear n0_; (try clear hb); (try clear hb2); (try clear hk); (try clear hi)) | (go_at_call 13; (with_reducible refine (lexer_Lex.calls a0 t176 t177 t178 _ (Tab.below HTAB.out (by repeat (first | (with_reducible first | exact HB.out | exact Below.refl _ _ | apply below_alloc | apply pw_below_drewN | apply below_drew1) | exact HB.out))) A7.out).mono ?_); rintro e w10 ⟨v179, rfl, ho0, hb⟩; have n0_ := Aside0.mk (Kd.R_lower ho0 (below_size (by repeat (first | (with_reducible first | exact HB.out | apply below_alloc | apply pw_below_drewN | apply below_drew1) | exact HB.out)))); have n1_ := Aside0.mk (below_step (by repeat (first | (with_reducible first | exact HB.out | apply below_alloc | apply pw_below_drewN | apply below_drew1) | exact HB.out)) hb); clear HB; have HO180 := n0_; have HB := n1_; clear n0_ n1_; (try clear hb); (try clear hb2); (try clear hk); (try clear hi); (try clear ho0))); go_upto_region 6 with (first | (go_at_call 12; (with_reducible refine (backsteplaw02_awake.calls  true _ (Tab.below HTAB.out (by repeat (first | (with_reducible first | exact HB.out | exact Below.refl _ _ | apply below_alloc | apply pw_below_drewN | apply below_drew1) | exact HB.out))) A3.out).mono ?_); rintro e w9 ⟨rfl, hb⟩; have n0_ := Aside0.mk (below_step (by repeat (first | (with_reducible first | exact HB.out | apply below_alloc | apply pw_below_drewN | apply below_drew1) | exact HB.out)) hb); clear HB; have HB := n0_; clear n0_; (try clear hb); (try clear hb2); (try clear hk); (try clear hi)) | (go_at_call 13; (with_reducible refine (lexer_Lex.calls a0 t176 t177 t178 _ (Tab.below HTAB.out (by repeat (first | (with_reducible first | exact HB.out | exact Below.refl _ _ | apply below_alloc | apply pw_below_drewN | apply below_drew1) | exact HB.out))) A7.out).mono ?_); rintro e w10 ⟨v179, rfl, ho0, hb⟩; have n0_ := Aside0.mk (Kd.R_lower ho0 (below_size (by repeat (first | (with_reducible first | exact HB.out | apply below_alloc | apply pw_below_drewN | apply below_drew1) | exact HB.out)))); have n1_ := Aside0.mk (below_step (by repeat (first | (with_reducible first | exact HB.out | apply below_alloc | apply pw_below_drewN | apply below_drew1) | exact HB.out)) hb); clear HB; have HO180 := n0_; have HB := n1_; clear n0_ n1_; (try clear hb); (try clear hb2); (try clear hk); (try clear hi); (try clear ho0))))
      (try simp only [Act.put, List.setIfInBounds_toArray, List.set_cons_zero, List.set_cons_succ])
      go_cut [30] (fun v30 wc => ∃ (kq : Nat) (x30_7 : Bool), v30 = .bool x30_7 ∧ Aside0 (backsteplaw02_LexerLongest.j0 kq a0 a1 t176 x30_7 = some r) ∧ Aside0 (kq ≤ k) ∧ Aside0 (Kd.R k33 33 wc w.heap.size (fun _ => True) v179 t176) ∧ Aside0 (Below w.heap.size w wc))
      case first =>
        have H := HC8.out
        clear HC8
        by_cases c11 : t178 = 0
        · rw [if_pos c11] at H
          have c11b0 : (t178 == 0) = true := beq_iff_eq.mpr c11
          have c11b1 : (t178 != 0) = false := bne_eq_false_iff_eq.mpr c11
          clear c11
          (first | rw [c11b0] | (simp only [i64_w, i32_w]; rw [c11b0]) | skip)
          have H' := Aside0.mk H
          clear H
          obtain ⟨Ao12, co12, eo12⟩ := Kd.R_slice HO180.out
          subst eo12
          go_wp2
          repeat (go_quiet (fail); try go_wp2)
          go_meet
          case rel => exact ⟨_, (((t176.length : Int) == 0)), (by first | rfl | (simp; done) | (simp [*]; done)), H', ⟨by first | omega | exact Nat.le_refl _⟩, ⟨by (with_reducible repeat (first | apply Kd.R_alloc | apply Kd.R_drewN | apply Kd.R_drew)); exact HO180.out⟩, ⟨by repeat (first | (with_reducible first | exact HB.out | apply below_alloc | apply pw_below_drewN | apply below_drew1) | exact HB.out)⟩⟩
        · rw [if_neg c11] at H
          have c11b0 : (t178 == 0) = false := beq_eq_false_iff_ne.mpr c11
          have c11b1 : (t178 != 0) = true := bne_iff_ne.mpr c11
          (first | rw [c11b0] | (simp only [i64_w, i32_w]; rw [c11b0]) | skip)
          have H' := Aside0.mk H
          clear H
          go_wp2
          repeat (go_quiet (fail); try go_wp2)
          go_meet
          case rel => exact ⟨_, (true), (by first | rfl | (simp; done) | (simp [*]; done)), H', ⟨by first | omega | exact Nat.le_refl _⟩, ⟨by (with_reducible repeat (first | apply Kd.R_alloc | apply Kd.R_drewN | apply Kd.R_drew)); exact HO180.out⟩, ⟨by repeat (first | (with_reducible first | exact HB.out | apply below_alloc | apply pw_below_drewN | apply below_drew1) | exact HB.out)⟩⟩
      case rest =>
        clear HC8
        try clear c1
        try clear p2
        try clear c4
        try clear c5
        try clear c5b0
        try clear c5b1
        try clear c11
        try clear c11b0
        try clear c11b1
        obtain ⟨kq, x30_7, rfl, HA, HJ7, HO_5, HB⟩ := hcut
        cases kq with
        | zero => exact absurd HA.out (by simp [backsteplaw02_LexerLongest.j0])
        | succ kj7 =>
          have H := HA.out
          clear HA
          simp only [backsteplaw02_LexerLongest.j0] at H
          by_cases c13 : x30_7 = true
          · subst c13
            have H1 : (some true) = some r := by rw [if_pos rfl] at H; exact H
            clear H
            have H := H1
            clear H1
            obtain rfl := Option.some.inj H
            go_wp2
            repeat (go_quiet (fail); try go_wp2)
            go_ret
            exact ⟨by first | rfl | (simp [errW_none, errW_some] <;> rfl) | (simp [*, errW_none, errW_some] <;> rfl), by repeat (first | (with_reducible first | exact HB.out | apply below_alloc | apply pw_below_drewN | apply below_drew1) | exact HB.out)⟩
          · replace c13 := Bool.eq_false_iff.mpr c13
            subst c13
            have H1 : (if (t176.length : Int) = 0 then (none) else (if 0 ≤ (Int.tmod (wrap64 (a1)) (t176.length : Int)) then (if (Int.tmod (wrap64 (a1)) (t176.length : Int)) < (t176.length : Int) then (if ((rd_T33 t176 (Int.tmod (wrap64 (a1)) (t176.length : Int))).f2) < 0 then (backsteplaw02_LexerLongest.j1 kj7 a0 t176 (Int.tmod (wrap64 (a1)) (t176.length : Int)) true) else (backsteplaw02_LexerLongest.j1 kj7 a0 t176 (Int.tmod (wrap64 (a1)) (t176.length : Int)) (decide (((rd_T33 t176 (Int.tmod (wrap64 (a1)) (t176.length : Int))).f2) > (a0.size : Int))))) else (none)) else (none))) = some r := by rw [if_neg (show ¬ (false = true) by decide)] at H; exact H
            clear H
            have H := H1
            clear H1
            by_cases c14 : (t176.length : Int) = 0
            · rw [if_pos c14] at H
              exact absurd H (by simp)
            · rw [if_neg c14] at H
              have c14b0 : ((t176.length : Int) == 0) = false := beq_eq_false_iff_ne.mpr c14
              have c14b1 : ((t176.length : Int) != 0) = true := bne_iff_ne.mpr c14
              have c14b2 : ¬ (t176 = []) := fun h_ => c14 (by rw [h_]; rfl)
              have HC15 := Aside0.mk H
              clear H
              obtain ⟨Ao16, co16, eo16⟩ := Kd.R_slice HO_5.out
              subst eo16
              go_upto_region 9 with (fail)
              repeat (go_quiet (fail); go_upto_region 9 with (fail))
              go_cut [51] (fun v51 wc => ∃ (kq : Nat) (x51_14 : Bool), v51 = .bool x51_14 ∧ Aside0 (backsteplaw02_LexerLongest.j1 kq a0 t176 (Int.tmod (wrap64 (a1)) (t176.length : Int)) x51_14 = some r) ∧ Aside0 (kq ≤ kj7) ∧ Aside0 (Kd.R k33 33 wc w.heap.size (fun _ => True) (.slice Ao16 t176.length co16) t176) ∧ Aside0 (Below w.heap.size w wc))
              case first =>
                have H := HC15.out
                clear HC15
                obtain ⟨ji17, hji17⟩ : ∃ j_ : Int, (Int.tmod (wrap64 (a1)) (t176.length : Int)) = j_ := ⟨_, rfl⟩
                replace H : (if 0 ≤ (ji17) then (if (ji17) < (t176.length : Int) then (if ((rd_T33 t176 (ji17)).f2) < 0 then (backsteplaw02_LexerLongest.j1 kj7 a0 t176 ji17 true) else (backsteplaw02_LexerLongest.j1 kj7 a0 t176 ji17 (decide (((rd_T33 t176 (ji17)).f2) > (a0.size : Int))))) else (none)) else (none)) = some r := by first | (rw [hji17] at H; exact H) | (simp only [hji17] at H ⊢; exact H)
                by_cases c18 : 0 ≤ (ji17)
                · rw [if_pos c18] at H
                  have c18b0 : decide (0 ≤ (ji17)) = true := decide_eq_true c18
                  clear c18
                  (first | rw [c18b0] | (simp only [i64_w, i32_w]; rw [c18b0]) | skip)
                  by_cases c19 : (ji17) < (t176.length : Int)
                  · rw [if_pos c19] at H
                    have c19b0 : decide ((ji17) < (t176.length : Int)) = true := decide_eq_true c19
                    clear c19
                    by_cases c20 : ((rd_T33 t176 (ji17)).f2) < 0
                    · rw [if_pos c20] at H
                      have c20b0 : decide (((rd_T33 t176 (ji17)).f2) < 0) = true := decide_eq_true c20
                      clear c20
                      have H' := Aside0.mk H
                      clear H
                      have p181 : 0 ≤ ((ji17) : Int) := of_decide_eq_true (by first | (with_reducible assumption) | assumption)
                      have q181 : (ji17) < (t176.length : Int) := of_decide_eq_true (by first | (with_reducible assumption) | assumption)
                      obtain ⟨ad181, e181, hx181_0, hx181_1, hx181_2⟩ := at_T33 (Kd.R_reads' HO_5.out).2.2 (ji17) p181 q181
                      cases e181
                      replace p181 := eq_true p181
                      replace q181 := eq_true q181
                      go_wp2
                      repeat (go_quiet (fail); try go_wp2)
                      subst hji17
                      go_meet
                      case rel => exact ⟨_, (true), (by first | rfl | (simp; done) | (simp [*]; done)), H', ⟨by have := HJ7.out; first | omega | exact Nat.le_refl _⟩, ⟨by (with_reducible repeat (first | apply Kd.R_alloc | apply Kd.R_drewN | apply Kd.R_drew)); exact HO_5.out⟩, ⟨by repeat (first | (with_reducible first | exact HB.out | apply below_alloc | apply pw_below_drewN | apply below_drew1) | exact HB.out)⟩⟩
                    · rw [if_neg c20] at H
                      have c20b0 : decide (((rd_T33 t176 (ji17)).f2) < 0) = false := decide_eq_false c20
                      clear c20
                      have H' := Aside0.mk H
                      clear H
                      have p181 : 0 ≤ ((ji17) : Int) := of_decide_eq_true (by first | (with_reducible assumption) | assumption)
                      have q181 : (ji17) < (t176.length : Int) := of_decide_eq_true (by first | (with_reducible assumption) | assumption)
                      obtain ⟨ad181, e181, hx181_0, hx181_1, hx181_2⟩ := at_T33 (Kd.R_reads' HO_5.out).2.2 (ji17) p181 q181
                      cases e181
                      replace p181 := eq_true p181
                      replace q181 := eq_true q181
                      have p182 : 0 ≤ ((ji17) : Int) := of_decide_eq_true (by first | (with_reducible assumption) | assumption)
                      have q182 : (ji17) < (t176.length : Int) := of_decide_eq_true (by first | (with_reducible assumption) | assumption)
                      obtain ⟨ad182, e182, hx182_0, hx182_1, hx182_2⟩ := at_T33 (Kd.R_reads' HO_5.out).2.2 (ji17) p182 q182
                      obtain rfl : ad181 = ad182 := (by injection e182)
                      replace p182 := eq_true p182
                      replace q182 := eq_true q182
                      go_wp2
                      repeat (go_quiet (fail); try go_wp2)
                      subst hji17
                      go_meet
                      case rel => exact ⟨_, _, (by first | rfl | (simp; done) | (simp [*]; done)), H', ⟨by have := HJ7.out; first | omega | exact Nat.le_refl _⟩, ⟨by (with_reducible repeat (first | apply Kd.R_alloc | apply Kd.R_drewN | apply Kd.R_drew)); exact HO_5.out⟩, ⟨by repeat (first | (with_reducible first | exact HB.out | apply below_alloc | apply pw_below_drewN | apply below_drew1) | exact HB.out)⟩⟩
                  · rw [if_neg c19] at H
                    exact absurd H (by simp)
                · rw [if_neg c18] at H
                  exact absurd H (by simp)
              case rest =>
                clear HC15
                try clear c1
                try clear p1
                try clear q1
                try clear hx1
                try clear c2
                try clear p2
                try clear c4
                try clear c5
                try clear c5b0
                try clear c5b1
                try clear p6
                try clear c11
                try clear c11b0
                try clear c11b1
                try clear c13
                try clear c14
                try clear c14b0
                try clear c14b1
                try clear c14b2
                try clear c18
                try clear c18b0
                try clear p18
                try clear q18
                try clear hx18
                try clear c19
                try clear c19b0
                try clear c20
                try clear c20b0
                try clear hx181_0
                try clear hx181_1
                try clear hx181_2
                try clear hx182_0
                try clear hx182_1
                try clear hx182_2
                try clear p181
                try clear p182
                try clear p2
                try clear q181
                try clear q182
                obtain ⟨kq, x51_14, rfl, HA, HJ14, HO_5, HB⟩ := hcut
                cases kq with
                | zero => exact absurd HA.out (by simp [backsteplaw02_LexerLongest.j1])
                | succ kj14 =>
                  have H := HA.out
                  clear HA
                  simp only [backsteplaw02_LexerLongest.j1] at H
                  by_cases c21 : x51_14 = true
                  · subst c21
                    have H1 : (some false) = some r := by rw [if_pos rfl] at H; exact H
                    clear H
                    have H := H1
                    clear H1
                    obtain rfl := Option.some.inj H
                    go_wp2
                    repeat (go_quiet (fail); try go_wp2)
                    go_ret
                    exact ⟨by first | rfl | (simp [errW_none, errW_some] <;> rfl) | (simp [*, errW_none, errW_some] <;> rfl), by repeat (first | (with_reducible first | exact HB.out | apply below_alloc | apply pw_below_drewN | apply below_drew1) | exact HB.out)⟩
                  · replace c21 := Bool.eq_false_iff.mpr c21
                    subst c21
                    have H1 : (if 0 ≤ (Int.tmod (wrap64 (a1)) (t176.length : Int)) then (if (Int.tmod (wrap64 (a1)) (t176.length : Int)) < (t176.length : Int) then (if 0 ≤ ((rd_T33 t176 (Int.tmod (wrap64 (a1)) (t176.length : Int))).f2) then (if ((rd_T33 t176 (Int.tmod (wrap64 (a1)) (t176.length : Int))).f2) ≤ (a0.size : Int) then ((lexer_Lex.f (a0.extract (((rd_T33 t176 (Int.tmod (wrap64 (a1)) (t176.length : Int))).f2) : Int).toNat a0.size)).bind fun bt184 => (if bt184.2.2 = 0 then (backsteplaw02_LexerLongest.j2 kj14 t176 (Int.tmod (wrap64 (a1)) (t176.length : Int)) bt184.1 ((bt184.1.length : Int) != (wrap64 ((t176.length : Int) - (Int.tmod (wrap64 (a1)) (t176.length : Int)))))) else (backsteplaw02_LexerLongest.j2 kj14 t176 (Int.tmod (wrap64 (a1)) (t176.length : Int)) bt184.1 true))) else (none)) else (none)) else (none)) else (none)) = some r := by rw [if_neg (show ¬ (false = true) by decide)] at H; exact H
                    clear H
                    have H := H1
                    clear H1
                    obtain ⟨ji22, hji22⟩ : ∃ j_ : Int, (Int.tmod (wrap64 (a1)) (t176.length : Int)) = j_ := ⟨_, rfl⟩
                    replace H : (if 0 ≤ (ji22) then (if (ji22) < (t176.length : Int) then (if 0 ≤ ((rd_T33 t176 (ji22)).f2) then (if ((rd_T33 t176 (ji22)).f2) ≤ (a0.size : Int) then ((lexer_Lex.f (a0.extract (((rd_T33 t176 (ji22)).f2) : Int).toNat a0.size)).bind fun bt184 => (if bt184.2.2 = 0 then (backsteplaw02_LexerLongest.j2 kj14 t176 (ji22) bt184.1 ((bt184.1.length : Int) != (wrap64 ((t176.length : Int) - (ji22))))) else (backsteplaw02_LexerLongest.j2 kj14 t176 (ji22) bt184.1 true))) else (none)) else (none)) else (none)) else (none)) = some r := by first | (rw [hji22] at H; exact H) | (simp only [hji22] at H ⊢; exact H)
                    by_cases c23 : 0 ≤ (ji22)
                    · rw [if_pos c23] at H
                      have c23b0 : decide (0 ≤ (ji22)) = true := decide_eq_true c23
                      clear c23
                      by_cases c24 : (ji22) < (t176.length : Int)
                      · rw [if_pos c24] at H
                        have c24b0 : decide ((ji22) < (t176.length : Int)) = true := decide_eq_true c24
                        clear c24
                        by_cases c25 : 0 ≤ ((rd_T33 t176 (ji22)).f2)
                        · rw [if_pos c25] at H
                          have c25b0 := eq_true c25
                          have c25b1 : decide (0 ≤ ((rd_T33 t176 (ji22)).f2)) = true := decide_eq_true c25
                          clear c25
                          by_cases c26 : ((rd_T33 t176 (ji22)).f2) ≤ (a0.size : Int)
                          · rw [if_pos c26] at H
                            have c26b0 := eq_true c26
                            have c26b1 : decide (((rd_T33 t176 (ji22)).f2) ≤ (a0.size : Int)) = true := decide_eq_true c26
                            clear c26
                            replace H := Option.bind_eq_some_iff.mp H
                            obtain ⟨⟨t184, t185, t186⟩, A270, H⟩ := H
                            replace H : (if t186 = 0 then (backsteplaw02_LexerLongest.j2 kj14 t176 (ji22) t184 ((t184.length : Int) != (wrap64 ((t176.length : Int) - (ji22))))) else (backsteplaw02_LexerLongest.j2 kj14 t176 (ji22) t184 true)) = some r := H
                            have A27 := Aside0.mk A270
                            clear A270
                            have HC28 := Aside0.mk H
                            clear H
                            have p183 : 0 ≤ ((ji22) : Int) := of_decide_eq_true (by first | (with_reducible assumption) | assumption)
                            have q183 : (ji22) < (t176.length : Int) := of_decide_eq_true (by first | (with_reducible assumption) | assumption)
                            obtain ⟨ad183, e183, hx183_0, hx183_1, hx183_2⟩ := at_T33 (Kd.R_reads' HO_5.out).2.2 (ji22) p183 q183
                            cases e183
                            replace p183 := eq_true p183
                            replace q183 := eq_true q183
                            go_upto_region 12 with (first | (go_at_call 13; (with_reducible refine (lexer_Lex.calls (a0.extract (((rd_T33 t176 (ji22)).f2) : Int).toNat a0.size) t184 t185 t186 _ (Tab.below HTAB.out (by repeat (first | (with_reducible first | exact HB.out | exact Below.refl _ _ | apply below_alloc | apply pw_below_drewN | apply below_drew1) | exact HB.out))) A27.out).mono ?_); rintro e w29 ⟨v187, rfl, ho0, hb⟩; have n0_ := Aside0.mk (Kd.R_elder' (by (with_reducible repeat (first | apply Kd.R_alloc | apply Kd.R_drewN | apply Kd.R_drew)); exact HO_5.out) (Kd.R_base ho0) hb); have n1_ := Aside0.mk (Kd.R_lower (Kd.R_new' ho0 (Kd.R_lt (by (with_reducible repeat (first | apply Kd.R_alloc | apply Kd.R_drewN | apply Kd.R_drew)); exact HO_5.out))) (below_size (by repeat (first | (with_reducible first | exact HB.out | apply below_alloc | apply pw_below_drewN | apply below_drew1) | exact HB.out)))); have n2_ := Aside0.mk (below_step (by repeat (first | (with_reducible first | exact HB.out | apply below_alloc | apply pw_below_drewN | apply below_drew1) | exact HB.out)) hb); clear HO_5; clear HB; have HO_5 := n0_; have HO188 := n1_; have HB := n2_; clear n0_ n1_ n2_; (try clear hb); (try clear hb2); (try clear hk); (try clear hi); (try clear ho0)))
                            repeat (go_quiet (first | (go_at_call 13; (with_reducible refine (lexer_Lex.calls (a0.extract (((rd_T33 t176 (ji22)).f2) : Int).toNat a0.size) t184 t185 t186 _ (Tab.below HTAB.out (by repeat (first | (with_reducible first | exact HB.out | exact Below.refl _ _ | apply below_alloc | apply pw_below_drewN | apply below_drew1) | exact HB.out))) A27.out).mono ?_); rintro e w29 ⟨v187, rfl, ho0, hb⟩; have n0_ := Aside0.mk (Kd.R_elder' (by (with_reducible repeat (first | apply Kd.R_alloc | apply Kd.R_drewN | apply Kd.R_drew)); exact HO_5.out) (Kd.R_base ho0) hb); have n1_ := Aside0.mk (Kd.R_lower (Kd.R_new' ho0 (Kd.R_lt (by (with_reducible repeat (first | apply Kd.R_alloc | apply Kd.R_drewN | apply Kd.R_drew)); exact HO_5.out))) (below_size (by repeat (first | (with_reducible first | exact HB.out | apply below_alloc | apply pw_below_drewN | apply below_drew1) | exact HB.out)))); have n2_ := Aside0.mk (below_step (by repeat (first | (with_reducible first | exact HB.out | apply below_alloc | apply pw_below_drewN | apply below_drew1) | exact HB.out)) hb); clear HO_5; clear HB; have HO_5 := n0_; have HO188 := n1_; have HB := n2_; clear n0_ n1_ n2_; (try clear hb); (try clear hb2); (try clear hk); (try clear hi); (try clear ho0))); go_upto_region 12 with (first | (go_at_call 13; (with_reducible refine (lexer_Lex.calls (a0.extract (((rd_T33 t176 (ji22)).f2) : Int).toNat a0.size) t184 t185 t186 _ (Tab.below HTAB.out (by repeat (first | (with_reducible first | exact HB.out | exact Below.refl _ _ | apply below_alloc | apply pw_below_drewN | apply below_drew1) | exact HB.out))) A27.out).mono ?_); rintro e w29 ⟨v187, rfl, ho0, hb⟩; have n0_ := Aside0.mk (Kd.R_elder' (by (with_reducible repeat (first | apply Kd.R_alloc | apply Kd.R_drewN | apply Kd.R_drew)); exact HO_5.out) (Kd.R_base ho0) hb); have n1_ := Aside0.mk (Kd.R_lower (Kd.R_new' ho0 (Kd.R_lt (by (with_reducible repeat (first | apply Kd.R_alloc | apply Kd.R_drewN | apply Kd.R_drew)); exact HO_5.out))) (below_size (by repeat (first | (with_reducible first | exact HB.out | apply below_alloc | apply pw_below_drewN | apply below_drew1) | exact HB.out)))); have n2_ := Aside0.mk (below_step (by repeat (first | (with_reducible first | exact HB.out | apply below_alloc | apply pw_below_drewN | apply below_drew1) | exact HB.out)) hb); clear HO_5; clear HB; have HO_5 := n0_; have HO188 := n1_; have HB := n2_; clear n0_ n1_ n2_; (try clear hb); (try clear hb2); (try clear hk); (try clear hi); (try clear ho0))))
                            (try simp only [Act.put, List.setIfInBounds_toArray, List.set_cons_zero, List.set_cons_succ])
                            go_cut [74] (fun v74 wc => ∃ (kq : Nat) (x74_27 : Bool), v74 = .bool x74_27 ∧ Aside0 (backsteplaw02_LexerLongest.j2 kq t176 (ji22) t184 x74_27 = some r) ∧ Aside0 (kq ≤ kj14) ∧ Aside0 (Kd.R k33 33 wc w.heap.size (fun k_ => some k_ ≠ (v187 : Value).ownBlock) (.slice (some ad183) t176.length co16) t176) ∧ Aside0 (Kd.R k33 33 wc w.heap.size (fun k_ => some k_ ≠ ((.slice (some ad183) t176.length co16) : Value).ownBlock) v187 t184) ∧ Aside0 (Below w.heap.size w wc))
                            case first =>
                              have H := HC28.out
                              clear HC28
                              by_cases c30 : t186 = 0
                              · rw [if_pos c30] at H
                                have c30b0 : (t186 == 0) = true := beq_iff_eq.mpr c30
                                have c30b1 : (t186 != 0) = false := bne_eq_false_iff_eq.mpr c30
                                clear c30
                                (first | rw [c30b0] | (simp only [i64_w, i32_w]; rw [c30b0]) | skip)
                                have H' := Aside0.mk H
                                clear H
                                obtain ⟨Ao31, co31, eo31⟩ := Kd.R_slice HO188.out
                                subst eo31
                                go_wp2
                                repeat (go_quiet (fail); try go_wp2)
                                go_meet
                                case rel => exact ⟨_, (((t184.length : Int) != (wrap64 ((t176.length : Int) - (ji22))))), (by first | rfl | (simp; done) | (simp only [← hji22] <;> (first | rfl | simp)) | (simp [*]; done)), H', ⟨by have := HJ7.out; have := HJ14.out; first | omega | exact Nat.le_refl _⟩, ⟨by (with_reducible repeat (first | apply Kd.R_alloc | apply Kd.R_drewN | apply Kd.R_drew)); exact Kd.R_mono HO_5.out (fun _ hk => hk.2)⟩, ⟨by (with_reducible repeat (first | apply Kd.R_alloc | apply Kd.R_drewN | apply Kd.R_drew)); exact Kd.R_mono HO188.out (fun _ hk => hk.2)⟩, ⟨by repeat (first | (with_reducible first | exact HB.out | apply below_alloc | apply pw_below_drewN | apply below_drew1) | exact HB.out)⟩⟩
                              · rw [if_neg c30] at H
                                have c30b0 : (t186 == 0) = false := beq_eq_false_iff_ne.mpr c30
                                have c30b1 : (t186 != 0) = true := bne_iff_ne.mpr c30
                                (first | rw [c30b0] | (simp only [i64_w, i32_w]; rw [c30b0]) | skip)
                                have H' := Aside0.mk H
                                clear H
                                go_wp2
                                repeat (go_quiet (fail); try go_wp2)
                                go_meet
                                case rel => exact ⟨_, (true), (by first | rfl | (simp; done) | (simp [*]; done)), H', ⟨by have := HJ7.out; have := HJ14.out; first | omega | exact Nat.le_refl _⟩, ⟨by (with_reducible repeat (first | apply Kd.R_alloc | apply Kd.R_drewN | apply Kd.R_drew)); exact Kd.R_mono HO_5.out (fun _ hk => hk.2)⟩, ⟨by (with_reducible repeat (first | apply Kd.R_alloc | apply Kd.R_drewN | apply Kd.R_drew)); exact Kd.R_mono HO188.out (fun _ hk => hk.2)⟩, ⟨by repeat (first | (with_reducible first | exact HB.out | apply below_alloc | apply pw_below_drewN | apply below_drew1) | exact HB.out)⟩⟩
                            case rest =>
                              clear HC28
                              try clear c1
                              try clear p1
                              try clear q1
                              try clear hx1
                              try clear c2
                              try clear p2
                              try clear c3
                              try clear c4
                              try clear c5
                              try clear c5b0
                              try clear c5b1
                              try clear p6
                              try clear c11
                              try clear c11b0
                              try clear c11b1
                              try clear c13
                              try clear c14
                              try clear c14b0
                              try clear c14b1
                              try clear c14b2
                              try clear c18
                              try clear c18b0
                              try clear p18
                              try clear q18
                              try clear hx18
                              try clear c19
                              try clear c19b0
                              try clear c20
                              try clear c20b0
                              try clear c21
                              try clear c23
                              try clear c23b0
                              try clear c24
                              try clear c24b0
                              try clear c25
                              try clear c25b0
                              try clear c25b1
                              try clear c26
                              try clear c26b0
                              try clear c26b1
                              try clear c30
                              try clear c30b0
                              try clear c30b1
                              try clear hx181_0
                              try clear hx181_1
                              try clear hx181_2
                              try clear hx182_0
                              try clear hx182_1
                              try clear hx182_2
                              try clear hx183_0
                              try clear hx183_1
                              try clear hx183_2
                              try clear p1
                              try clear p18
                              try clear p181
                              try clear p182
                              try clear p183
                              try clear p2
                              try clear p6
                              try clear q1
                              try clear q18
                              try clear q181
                              try clear q182
                              try clear q183
                              obtain ⟨kq, x74_27, rfl, HA, HJ27, HO_5, HO_9, HB⟩ := hcut
                              cases kq with
                              | zero => exact absurd HA.out (by simp [backsteplaw02_LexerLongest.j2])
                              | succ kj27 =>
                                have H := HA.out
                                clear HA
                                simp only [backsteplaw02_LexerLongest.j2] at H
                                by_cases c32 : x74_27 = true
                                · subst c32
                                  have H1 : (some false) = some r := by rw [if_pos rfl] at H; exact H
                                  clear H
                                  have H := H1
                                  clear H1
                                  obtain rfl := Option.some.inj H
                                  go_wp2
                                  repeat (go_quiet (fail); try go_wp2)
                                  go_ret
                                  exact ⟨by first | rfl | (simp [errW_none, errW_some] <;> rfl) | (simp only [← hji22]; first | rfl | (simp [errW_none, errW_some] <;> rfl)) | (simp [*, errW_none, errW_some] <;> rfl), by repeat (first | (with_reducible first | exact HB.out | apply below_alloc | apply pw_below_drewN | apply below_drew1) | exact HB.out)⟩
                                · replace c32 := Bool.eq_false_iff.mpr c32
                                  subst c32
                                  have H1 : (backsteplaw02_LexerLongest.l0 kj27 t176 (ji22) t184 0) = some r := by rw [if_neg (show ¬ (false = true) by decide)] at H; exact H
                                  clear H
                                  have H := H1
                                  clear H1
                                  have H' := Aside0.mk H
                                  clear H
                                  go_wp2
                                  repeat (go_quiet (fail); try go_wp2)
                                  go_loopg [12] kj27 (fun kq v12 w' => ∃ (x12_4 : Int), v12 = .int .i64 x12_4 ∧ Aside0 (backsteplaw02_LexerLongest.l0 kq t176 (ji22) t184 x12_4 = some r) ∧ Aside0 (kq ≤ kj27) ∧ Aside0 (Kd.R k33 33 w' w.heap.size (fun k_ => some k_ ≠ (v187 : Value).ownBlock) (.slice (some ad183) t176.length co16) t176) ∧ Aside0 (Kd.R k33 33 w' w.heap.size (fun k_ => some k_ ≠ ((.slice (some ad183) t176.length co16) : Value).ownBlock) v187 t184) ∧ Aside0 (Below w.heap.size w w'))
                                  case atStart => exact ⟨(0), (by first | rfl | (simp; done) | (simp [*]; done)), H', ⟨Nat.le_refl _⟩, ⟨by (with_reducible repeat (first | apply Kd.R_alloc | apply Kd.R_drewN | apply Kd.R_drew)); exact HO_5.out⟩, ⟨by (with_reducible repeat (first | apply Kd.R_alloc | apply Kd.R_drewN | apply Kd.R_drew)); exact HO_9.out⟩, ⟨by repeat (first | (with_reducible first | exact HB.out | apply below_alloc | apply pw_below_drewN | apply below_drew1) | exact HB.out)⟩⟩
                                  case round =>
                                    clear H'
                                    try clear c1
                                    try clear p1
                                    try clear q1
                                    try clear hx1
                                    try clear c2
                                    try clear p2
                                    try clear c3
                                    try clear c4
                                    try clear c5
                                    try clear c5b0
                                    try clear c5b1
                                    try clear p6
                                    try clear c11
                                    try clear c11b0
                                    try clear c11b1
                                    try clear c13
                                    try clear c14
                                    try clear c14b0
                                    try clear c14b1
                                    try clear c14b2
                                    try clear c18
                                    try clear c18b0
                                    try clear p18
                                    try clear q18
                                    try clear hx18
                                    try clear c19
                                    try clear c19b0
                                    try clear c20
                                    try clear c20b0
                                    try clear c21
                                    try clear c23
                                    try clear c23b0
                                    try clear c24
                                    try clear c24b0
                                    try clear c25
                                    try clear c25b0
                                    try clear c25b1
                                    try clear c26
                                    try clear c26b0
                                    try clear c26b1
                                    try clear c30
                                    try clear c30b0
                                    try clear c30b1
                                    try clear c32
                                    try clear hx181_0
                                    try clear hx181_1
                                    try clear hx181_2
                                    try clear hx182_0
                                    try clear hx182_1
                                    try clear hx182_2
                                    try clear hx183_0
                                    try clear hx183_1
                                    try clear hx183_2
                                    try clear p1
                                    try clear p18
                                    try clear p181
                                    try clear p182
                                    try clear p183
                                    try clear p2
                                    try clear p6
                                    try clear q1
                                    try clear q18
                                    try clear q181
                                    try clear q182
                                    try clear q183
                                    obtain ⟨x12_4, rfl, HA, HK4, HO_5, HO_9, HB⟩ := hrel
                                    cases gk with
                                    | zero => exact absurd HA.out (by simp [backsteplaw02_LexerLongest.l0])
                                    | succ k4 =>
                                      have H := HA.out
                                      clear HA
                                      simp only [backsteplaw02_LexerLongest.l0] at H
                                      by_cases c33 : x12_4 < (t184.length : Int)
                                      · rw [if_pos c33] at H
                                        have c33b0 : decide (x12_4 < (t184.length : Int)) = true := decide_eq_true c33
                                        clear c33
                                        by_cases c34 : 0 ≤ x12_4
                                        · rw [if_pos c34] at H
                                          have c34b0 : decide (0 ≤ x12_4) = true := decide_eq_true c34
                                          clear c34
                                          obtain ⟨ji35, hji35⟩ : ∃ j_ : Int, (wrap64 ((ji22) + x12_4)) = j_ := ⟨_, rfl⟩
                                          replace H : (if 0 ≤ (ji35) then (if (ji35) < (t176.length : Int) then (if ((rd_T33 t184 x12_4).f0) = ((rd_T33 t176 (ji35)).f0) then (if ((rd_T33 t184 x12_4).f1).toList = ((rd_T33 t176 (ji35)).f1).toList then (if 0 ≤ (ji22) then (if (ji22) < (t176.length : Int) then (if ((rd_T33 t184 x12_4).f2) = (wrap64 (((rd_T33 t176 (ji35)).f2) - ((rd_T33 t176 (ji22)).f2))) then (backsteplaw02_LexerLongest.l0 k4 t176 (ji22) t184 (wrap64 (x12_4 + 1))) else (some false)) else (none)) else (none)) else (some false)) else (some false)) else (none)) else (none)) = some r := by first | (rw [hji35] at H; exact H) | (simp only [hji35] at H ⊢; exact H)
                                          have hji35w : (IntKind.i64.wrap ((ji22) + x12_4)) = ji35 := (i64_w _).trans hji35
                                          by_cases c36 : 0 ≤ (ji35)
                                          · rw [if_pos c36] at H
                                            have c36b0 : decide (0 ≤ (ji35)) = true := decide_eq_true c36
                                            clear c36
                                            by_cases c37 : (ji35) < (t176.length : Int)
                                            · rw [if_pos c37] at H
                                              have c37b0 : decide ((ji35) < (t176.length : Int)) = true := decide_eq_true c37
                                              clear c37
                                              by_cases c38 : ((rd_T33 t184 x12_4).f0) = ((rd_T33 t176 (ji35)).f0)
                                              · rw [if_pos c38] at H
                                                have c38b0 : (((rd_T33 t184 x12_4).f0) == ((rd_T33 t176 (ji35)).f0)) = true := beq_iff_eq.mpr c38
                                                have c38b1 : (((rd_T33 t184 x12_4).f0) != ((rd_T33 t176 (ji35)).f0)) = false := bne_eq_false_iff_eq.mpr c38
                                                clear c38
                                                by_cases c39 : ((rd_T33 t184 x12_4).f1).toList = ((rd_T33 t176 (ji35)).f1).toList
                                                · rw [if_pos c39] at H
                                                  have c39b0 : (((rd_T33 t184 x12_4).f1).toList == ((rd_T33 t176 (ji35)).f1).toList) = true := beq_iff_eq.mpr c39
                                                  have c39b1 : (((rd_T33 t184 x12_4).f1).toList != ((rd_T33 t176 (ji35)).f1).toList) = false := bne_eq_false_iff_eq.mpr c39
                                                  clear c39
                                                  by_cases c40 : 0 ≤ (ji22)
                                                  · rw [if_pos c40] at H
                                                    have c40b0 : decide (0 ≤ (ji22)) = true := decide_eq_true c40
                                                    clear c40
                                                    by_cases c41 : (ji22) < (t176.length : Int)
                                                    · rw [if_pos c41] at H
                                                      have c41b0 : decide ((ji22) < (t176.length : Int)) = true := decide_eq_true c41
                                                      clear c41
                                                      by_cases c42 : ((rd_T33 t184 x12_4).f2) = (wrap64 (((rd_T33 t176 (ji35)).f2) - ((rd_T33 t176 (ji22)).f2)))
                                                      · rw [if_pos c42] at H
                                                        have c42b0 : (((rd_T33 t184 x12_4).f2) == (wrap64 (((rd_T33 t176 (ji35)).f2) - ((rd_T33 t176 (ji22)).f2)))) = true := beq_iff_eq.mpr c42
                                                        have c42b1 : (((rd_T33 t184 x12_4).f2) != (wrap64 (((rd_T33 t176 (ji35)).f2) - ((rd_T33 t176 (ji22)).f2)))) = false := bne_eq_false_iff_eq.mpr c42
                                                        clear c42
                                                        have H' := Aside0.mk H
                                                        clear H
                                                        obtain ⟨Ao43, co43, eo43⟩ := Kd.R_slice HO_9.out
                                                        subst eo43
                                                        have p189 : 0 ≤ (x12_4 : Int) := of_decide_eq_true (by first | (with_reducible assumption) | assumption)
                                                        have q189 : x12_4 < (t184.length : Int) := of_decide_eq_true (by first | (with_reducible assumption) | assumption)
                                                        obtain ⟨ad189, e189, hx189_0, hx189_1, hx189_2⟩ := at_T33 (Kd.R_reads' HO_9.out).2.2 x12_4 p189 q189
                                                        cases e189
                                                        replace p189 := eq_true p189
                                                        replace q189 := eq_true q189
                                                        have p190 : 0 ≤ ((ji35) : Int) := of_decide_eq_true (by first | (with_reducible assumption) | assumption)
                                                        have q190 : (ji35) < (t176.length : Int) := of_decide_eq_true (by first | (with_reducible assumption) | assumption)
                                                        obtain ⟨ad190, e190, hx190_0, hx190_1, hx190_2⟩ := at_T33 (Kd.R_reads' HO_5.out).2.2 (ji35) p190 q190
                                                        obtain rfl : ad183 = ad190 := (by injection e190)
                                                        replace p190 := eq_true p190
                                                        replace q190 := eq_true q190
                                                        have p191 : 0 ≤ (x12_4 : Int) := of_decide_eq_true (by first | (with_reducible assumption) | assumption)
                                                        have q191 : x12_4 < (t184.length : Int) := of_decide_eq_true (by first | (with_reducible assumption) | assumption)
                                                        obtain ⟨ad191, e191, hx191_0, hx191_1, hx191_2⟩ := at_T33 (Kd.R_reads' HO_9.out).2.2 x12_4 p191 q191
                                                        obtain rfl : ad189 = ad191 := (by injection e191)
                                                        replace p191 := eq_true p191
                                                        replace q191 := eq_true q191
                                                        have p192 : 0 ≤ ((ji35) : Int) := of_decide_eq_true (by first | (with_reducible assumption) | assumption)
                                                        have q192 : (ji35) < (t176.length : Int) := of_decide_eq_true (by first | (with_reducible assumption) | assumption)
                                                        obtain ⟨ad192, e192, hx192_0, hx192_1, hx192_2⟩ := at_T33 (Kd.R_reads' HO_5.out).2.2 (ji35) p192 q192
                                                        obtain rfl : ad183 = ad192 := (by injection e192)
                                                        replace p192 := eq_true p192
                                                        replace q192 := eq_true q192
                                                        have p193 : 0 ≤ (x12_4 : Int) := of_decide_eq_true (by first | (with_reducible assumption) | assumption)
                                                        have q193 : x12_4 < (t184.length : Int) := of_decide_eq_true (by first | (with_reducible assumption) | assumption)
                                                        obtain ⟨ad193, e193, hx193_0, hx193_1, hx193_2⟩ := at_T33 (Kd.R_reads' HO_9.out).2.2 x12_4 p193 q193
                                                        obtain rfl : ad189 = ad193 := (by injection e193)
                                                        replace p193 := eq_true p193
                                                        replace q193 := eq_true q193
                                                        have p194 : 0 ≤ ((ji35) : Int) := of_decide_eq_true (by first | (with_reducible assumption) | assumption)
                                                        have q194 : (ji35) < (t176.length : Int) := of_decide_eq_true (by first | (with_reducible assumption) | assumption)
                                                        obtain ⟨ad194, e194, hx194_0, hx194_1, hx194_2⟩ := at_T33 (Kd.R_reads' HO_5.out).2.2 (ji35) p194 q194
                                                        obtain rfl : ad183 = ad194 := (by injection e194)
                                                        replace p194 := eq_true p194
                                                        replace q194 := eq_true q194
                                                        have p195 : 0 ≤ ((ji22) : Int) := of_decide_eq_true (by first | (with_reducible assumption) | assumption)
                                                        have q195 : (ji22) < (t176.length : Int) := of_decide_eq_true (by first | (with_reducible assumption) | assumption)
                                                        obtain ⟨ad195, e195, hx195_0, hx195_1, hx195_2⟩ := at_T33 (Kd.R_reads' HO_5.out).2.2 (ji22) p195 q195
                                                        obtain rfl : ad183 = ad195 := (by injection e195)
                                                        replace p195 := eq_true p195
                                                        replace q195 := eq_true q195
                                                        go_wp2
                                                        repeat (go_quiet (fail); try go_wp2)
                                                        go_roundg k4
                                                        case measure => have := HJ7.out; have := HJ14.out; have := HJ27.out; have := HK4.out; omega
                                                        case rel => exact ⟨(wrap64 (x12_4 + 1)), (by first | rfl | (simp; done) | (simp [*]; done)), H', ⟨by have := HJ7.out; have := HJ14.out; have := HJ27.out; have := HK4.out; omega⟩, ⟨by (with_reducible repeat (first | apply Kd.R_alloc | apply Kd.R_drewN | apply Kd.R_drew)); exact HO_5.out⟩, ⟨by (with_reducible repeat (first | apply Kd.R_alloc | apply Kd.R_drewN | apply Kd.R_drew)); exact HO_9.out⟩, ⟨by repeat (first | (with_reducible first | exact HB.out | apply below_alloc | apply pw_below_drewN | apply below_drew1) | exact HB.out)⟩⟩
                                                      · rw [if_neg c42] at H
                                                        have c42b0 : (((rd_T33 t184 x12_4).f2) == (wrap64 (((rd_T33 t176 (ji35)).f2) - ((rd_T33 t176 (ji22)).f2)))) = false := beq_eq_false_iff_ne.mpr c42
                                                        have c42b1 : (((rd_T33 t184 x12_4).f2) != (wrap64 (((rd_T33 t176 (ji35)).f2) - ((rd_T33 t176 (ji22)).f2)))) = true := bne_iff_ne.mpr c42
                                                        obtain rfl := Option.some.inj H
                                                        obtain ⟨Ao44, co44, eo44⟩ := Kd.R_slice HO_9.out
                                                        subst eo44
                                                        have p189 : 0 ≤ (x12_4 : Int) := of_decide_eq_true (by first | (with_reducible assumption) | assumption)
                                                        have q189 : x12_4 < (t184.length : Int) := of_decide_eq_true (by first | (with_reducible assumption) | assumption)
                                                        obtain ⟨ad189, e189, hx189_0, hx189_1, hx189_2⟩ := at_T33 (Kd.R_reads' HO_9.out).2.2 x12_4 p189 q189
                                                        cases e189
                                                        replace p189 := eq_true p189
                                                        replace q189 := eq_true q189
                                                        have p190 : 0 ≤ ((ji35) : Int) := of_decide_eq_true (by first | (with_reducible assumption) | assumption)
                                                        have q190 : (ji35) < (t176.length : Int) := of_decide_eq_true (by first | (with_reducible assumption) | assumption)
                                                        obtain ⟨ad190, e190, hx190_0, hx190_1, hx190_2⟩ := at_T33 (Kd.R_reads' HO_5.out).2.2 (ji35) p190 q190
                                                        obtain rfl : ad183 = ad190 := (by injection e190)
                                                        replace p190 := eq_true p190
                                                        replace q190 := eq_true q190
                                                        have p191 : 0 ≤ (x12_4 : Int) := of_decide_eq_true (by first | (with_reducible assumption) | assumption)
                                                        have q191 : x12_4 < (t184.length : Int) := of_decide_eq_true (by first | (with_reducible assumption) | assumption)
                                                        obtain ⟨ad191, e191, hx191_0, hx191_1, hx191_2⟩ := at_T33 (Kd.R_reads' HO_9.out).2.2 x12_4 p191 q191
                                                        obtain rfl : ad189 = ad191 := (by injection e191)
                                                        replace p191 := eq_true p191
                                                        replace q191 := eq_true q191
                                                        have p192 : 0 ≤ ((ji35) : Int) := of_decide_eq_true (by first | (with_reducible assumption) | assumption)
                                                        have q192 : (ji35) < (t176.length : Int) := of_decide_eq_true (by first | (with_reducible assumption) | assumption)
                                                        obtain ⟨ad192, e192, hx192_0, hx192_1, hx192_2⟩ := at_T33 (Kd.R_reads' HO_5.out).2.2 (ji35) p192 q192
                                                        obtain rfl : ad183 = ad192 := (by injection e192)
                                                        replace p192 := eq_true p192
                                                        replace q192 := eq_true q192
                                                        have p193 : 0 ≤ (x12_4 : Int) := of_decide_eq_true (by first | (with_reducible assumption) | assumption)
                                                        have q193 : x12_4 < (t184.length : Int) := of_decide_eq_true (by first | (with_reducible assumption) | assumption)
                                                        obtain ⟨ad193, e193, hx193_0, hx193_1, hx193_2⟩ := at_T33 (Kd.R_reads' HO_9.out).2.2 x12_4 p193 q193
                                                        obtain rfl : ad189 = ad193 := (by injection e193)
                                                        replace p193 := eq_true p193
                                                        replace q193 := eq_true q193
                                                        have p194 : 0 ≤ ((ji35) : Int) := of_decide_eq_true (by first | (with_reducible assumption) | assumption)
                                                        have q194 : (ji35) < (t176.length : Int) := of_decide_eq_true (by first | (with_reducible assumption) | assumption)
                                                        obtain ⟨ad194, e194, hx194_0, hx194_1, hx194_2⟩ := at_T33 (Kd.R_reads' HO_5.out).2.2 (ji35) p194 q194
                                                        obtain rfl : ad183 = ad194 := (by injection e194)
                                                        replace p194 := eq_true p194
                                                        replace q194 := eq_true q194
                                                        have p195 : 0 ≤ ((ji22) : Int) := of_decide_eq_true (by first | (with_reducible assumption) | assumption)
                                                        have q195 : (ji22) < (t176.length : Int) := of_decide_eq_true (by first | (with_reducible assumption) | assumption)
                                                        obtain ⟨ad195, e195, hx195_0, hx195_1, hx195_2⟩ := at_T33 (Kd.R_reads' HO_5.out).2.2 (ji22) p195 q195
                                                        obtain rfl : ad183 = ad195 := (by injection e195)
                                                        replace p195 := eq_true p195
                                                        replace q195 := eq_true q195
                                                        go_wp2
                                                        repeat (go_quiet (fail); try go_wp2)
                                                        go_ret
                                                        exact ⟨by first | rfl | (simp [errW_none, errW_some] <;> rfl) | (simp only [← hji22, ← hji35]; first | rfl | (simp [errW_none, errW_some] <;> rfl)) | (simp [*, errW_none, errW_some] <;> rfl), by repeat (first | (with_reducible first | exact HB.out | apply below_alloc | apply pw_below_drewN | apply below_drew1) | exact HB.out)⟩
                                                    · rw [if_neg c41] at H
                                                      exact absurd H (by simp)
                                                  · rw [if_neg c40] at H
                                                    exact absurd H (by simp)
                                                · rw [if_neg c39] at H
                                                  have c39b0 : (((rd_T33 t184 x12_4).f1).toList == ((rd_T33 t176 (ji35)).f1).toList) = false := beq_eq_false_iff_ne.mpr c39
                                                  have c39b1 : (((rd_T33 t184 x12_4).f1).toList != ((rd_T33 t176 (ji35)).f1).toList) = true := bne_iff_ne.mpr c39
                                                  obtain rfl := Option.some.inj H
                                                  obtain ⟨Ao45, co45, eo45⟩ := Kd.R_slice HO_9.out
                                                  subst eo45
                                                  have p189 : 0 ≤ (x12_4 : Int) := of_decide_eq_true (by first | (with_reducible assumption) | assumption)
                                                  have q189 : x12_4 < (t184.length : Int) := of_decide_eq_true (by first | (with_reducible assumption) | assumption)
                                                  obtain ⟨ad189, e189, hx189_0, hx189_1, hx189_2⟩ := at_T33 (Kd.R_reads' HO_9.out).2.2 x12_4 p189 q189
                                                  cases e189
                                                  replace p189 := eq_true p189
                                                  replace q189 := eq_true q189
                                                  have p190 : 0 ≤ ((ji35) : Int) := of_decide_eq_true (by first | (with_reducible assumption) | assumption)
                                                  have q190 : (ji35) < (t176.length : Int) := of_decide_eq_true (by first | (with_reducible assumption) | assumption)
                                                  obtain ⟨ad190, e190, hx190_0, hx190_1, hx190_2⟩ := at_T33 (Kd.R_reads' HO_5.out).2.2 (ji35) p190 q190
                                                  obtain rfl : ad183 = ad190 := (by injection e190)
                                                  replace p190 := eq_true p190
                                                  replace q190 := eq_true q190
                                                  have p191 : 0 ≤ (x12_4 : Int) := of_decide_eq_true (by first | (with_reducible assumption) | assumption)
                                                  have q191 : x12_4 < (t184.length : Int) := of_decide_eq_true (by first | (with_reducible assumption) | assumption)
                                                  obtain ⟨ad191, e191, hx191_0, hx191_1, hx191_2⟩ := at_T33 (Kd.R_reads' HO_9.out).2.2 x12_4 p191 q191
                                                  obtain rfl : ad189 = ad191 := (by injection e191)
                                                  replace p191 := eq_true p191
                                                  replace q191 := eq_true q191
                                                  have p192 : 0 ≤ ((ji35) : Int) := of_decide_eq_true (by first | (with_reducible assumption) | assumption)
                                                  have q192 : (ji35) < (t176.length : Int) := of_decide_eq_true (by first | (with_reducible assumption) | assumption)
                                                  obtain ⟨ad192, e192, hx192_0, hx192_1, hx192_2⟩ := at_T33 (Kd.R_reads' HO_5.out).2.2 (ji35) p192 q192
                                                  obtain rfl : ad183 = ad192 := (by injection e192)
                                                  replace p192 := eq_true p192
                                                  replace q192 := eq_true q192
                                                  go_wp2
                                                  repeat (go_quiet (fail); try go_wp2)
                                                  go_ret
                                                  exact ⟨by first | rfl | (simp [errW_none, errW_some] <;> rfl) | (simp only [← hji22, ← hji35]; first | rfl | (simp [errW_none, errW_some] <;> rfl)) | (simp [*, errW_none, errW_some] <;> rfl), by repeat (first | (with_reducible first | exact HB.out | apply below_alloc | apply pw_below_drewN | apply below_drew1) | exact HB.out)⟩
                                              · rw [if_neg c38] at H
                                                have c38b0 : (((rd_T33 t184 x12_4).f0) == ((rd_T33 t176 (ji35)).f0)) = false := beq_eq_false_iff_ne.mpr c38
                                                have c38b1 : (((rd_T33 t184 x12_4).f0) != ((rd_T33 t176 (ji35)).f0)) = true := bne_iff_ne.mpr c38
                                                obtain rfl := Option.some.inj H
                                                obtain ⟨Ao46, co46, eo46⟩ := Kd.R_slice HO_9.out
                                                subst eo46
                                                have p189 : 0 ≤ (x12_4 : Int) := of_decide_eq_true (by first | (with_reducible assumption) | assumption)
                                                have q189 : x12_4 < (t184.length : Int) := of_decide_eq_true (by first | (with_reducible assumption) | assumption)
                                                obtain ⟨ad189, e189, hx189_0, hx189_1, hx189_2⟩ := at_T33 (Kd.R_reads' HO_9.out).2.2 x12_4 p189 q189
                                                cases e189
                                                replace p189 := eq_true p189
                                                replace q189 := eq_true q189
                                                have p190 : 0 ≤ ((ji35) : Int) := of_decide_eq_true (by first | (with_reducible assumption) | assumption)
                                                have q190 : (ji35) < (t176.length : Int) := of_decide_eq_true (by first | (with_reducible assumption) | assumption)
                                                obtain ⟨ad190, e190, hx190_0, hx190_1, hx190_2⟩ := at_T33 (Kd.R_reads' HO_5.out).2.2 (ji35) p190 q190
                                                obtain rfl : ad183 = ad190 := (by injection e190)
                                                replace p190 := eq_true p190
                                                replace q190 := eq_true q190
                                                go_wp2
                                                repeat (go_quiet (fail); try go_wp2)
                                                go_ret
                                                exact ⟨by first | rfl | (simp [errW_none, errW_some] <;> rfl) | (simp only [← hji22, ← hji35]; first | rfl | (simp [errW_none, errW_some] <;> rfl)) | (simp [*, errW_none, errW_some] <;> rfl), by repeat (first | (with_reducible first | exact HB.out | apply below_alloc | apply pw_below_drewN | apply below_drew1) | exact HB.out)⟩
                                            · rw [if_neg c37] at H
                                              exact absurd H (by simp)
                                          · rw [if_neg c36] at H
                                            exact absurd H (by simp)
                                        · rw [if_neg c34] at H
                                          exact absurd H (by simp)
                                      · rw [if_neg c33] at H
                                        have c33b0 : decide (x12_4 < (t184.length : Int)) = false := decide_eq_false c33
                                        clear c33
                                        obtain rfl := Option.some.inj H
                                        obtain ⟨Ao47, co47, eo47⟩ := Kd.R_slice HO_9.out
                                        subst eo47
                                        go_wp2
                                        repeat (go_quiet (fail); try go_wp2)
                                        go_ret
                                        exact ⟨by first | rfl | (simp [errW_none, errW_some] <;> rfl) | (simp only [← hji22]; first | rfl | (simp [errW_none, errW_some] <;> rfl)) | (simp [*, errW_none, errW_some] <;> rfl), by repeat (first | (with_reducible first | exact HB.out | apply below_alloc | apply pw_below_drewN | apply below_drew1) | exact HB.out)⟩
                          · rw [if_neg c26] at H
                            exact absurd H (by simp)
                        · rw [if_neg c25] at H
                          exact absurd H (by simp)
                      · rw [if_neg c24] at H
                        exact absurd H (by simp)
                    · rw [if_neg c23] at H
                      exact absurd H (by simp)
  · replace c4 := Bool.eq_false_iff.mpr c4
    subst c4
    have H1 : (some false) = some r := by rw [if_neg (show ¬ (false = true) by decide)] at H; exact H
    clear H
    have H := H1
    clear H1
    obtain rfl := Option.some.inj H
    go_enter Tryd.func5, Tryd.ntmps5
    go_wp2_with (first | (go_at_call 12; (with_reducible refine (backsteplaw02_awake.calls  false _ (Tab.below HTAB.out (by repeat (first | (with_reducible first | exact HB.out | exact Below.refl _ _ | apply below_alloc | apply pw_below_drewN | apply below_drew1) | exact HB.out))) A3.out).mono ?_); rintro e w48 ⟨rfl, hb⟩; have n0_ := Aside0.mk (below_step (by repeat (first | (with_reducible first | exact HB.out | apply below_alloc | apply pw_below_drewN | apply below_drew1) | exact HB.out)) hb); clear HB; have HB := n0_; clear n0_; (try clear hb); (try clear hb2); (try clear hk); (try clear hi)))
    repeat (go_quiet (first | (go_at_call 12; (with_reducible refine (backsteplaw02_awake.calls  false _ (Tab.below HTAB.out (by repeat (first | (with_reducible first | exact HB.out | exact Below.refl _ _ | apply below_alloc | apply pw_below_drewN | apply below_drew1) | exact HB.out))) A3.out).mono ?_); rintro e w48 ⟨rfl, hb⟩; have n0_ := Aside0.mk (below_step (by repeat (first | (with_reducible first | exact HB.out | apply below_alloc | apply pw_below_drewN | apply below_drew1) | exact HB.out)) hb); clear HB; have HB := n0_; clear n0_; (try clear hb); (try clear hb2); (try clear hk); (try clear hi))); try go_wp2_with (first | (go_at_call 12; (with_reducible refine (backsteplaw02_awake.calls  false _ (Tab.below HTAB.out (by repeat (first | (with_reducible first | exact HB.out | exact Below.refl _ _ | apply below_alloc | apply pw_below_drewN | apply below_drew1) | exact HB.out))) A3.out).mono ?_); rintro e w48 ⟨rfl, hb⟩; have n0_ := Aside0.mk (below_step (by repeat (first | (with_reducible first | exact HB.out | apply below_alloc | apply pw_below_drewN | apply below_drew1) | exact HB.out)) hb); clear HB; have HB := n0_; clear n0_; (try clear hb); (try clear hb2); (try clear hk); (try clear hi))))
    go_ret
    exact ⟨by first | rfl | (simp [errW_none, errW_some] <;> rfl) | (simp [*, errW_none, errW_some] <;> rfl), by repeat (first | (with_reducible first | exact HB.out | apply below_alloc | apply pw_below_drewN | apply below_drew1) | exact HB.out)⟩

/-- THE ONE PURE STATEMENT of backsteplaw02_LexerLongest: yours. -/
def backsteplaw02_LexerLongest.Pure : Prop := ∀ (a0 : ByteArray) (a1 : Int), a0.size ≤ 140737488351232 → (Lit.int .u8 a1).wf = true → ∃ k, backsteplaw02_LexerLongest.f k a0 a1 = some true
theorem backsteplaw02_LexerLongest.walk (P : backsteplaw02_LexerLongest.Pure) (a0 : ByteArray) (a1 : Int) (w : World) (htab : Tab w) (w0 : a0.size ≤ 140737488351232) (w1 : (Lit.int .u8 a1).wf = true) :
    Calls Tryd.prog 5 #[.string a0, .int .u8 a1] w fun e w' => e = .returned (.bool true) ∧ Below w.heap.size w w' := by
  obtain ⟨k, h⟩ := P a0 a1 w0 w1
  refine (backsteplaw02_LexerLongest.calls k a0 a1 true w htab h).mono ?_
  rintro e w' ⟨rfl, hd⟩
  exact ⟨rfl, hd⟩

end Go.Proofs.YtapkfblkghoknaaDoor.PX
