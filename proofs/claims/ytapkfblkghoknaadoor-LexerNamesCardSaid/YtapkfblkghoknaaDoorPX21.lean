-- Written by wip/tools/weave.py out of a printing program's text: the contracts of Lex, Name, Keyword and Join, and the table's premise, are ours.
import Derived.Test.YtapkfblkghoknaaDoorPX0
import Derived.Test.YtapkfblkghoknaaDoorPX2
import Derived.Test.YtapkfblkghoknaaDoorPX3
import Derived.Test.YtapkfblkghoknaaDoorPX4
import Derived.Test.YtapkfblkghoknaaDoorPX17
import Derived.Test.YtapkfblkghoknaaDoorPX18
import Derived.Test.YtapkfblkghoknaaDoorPX19
import Derived.Test.YtapkfblkghoknaaDoorPX20
namespace Go.Proofs.YtapkfblkghoknaaDoor.PX
open Go.RowKit Go.Proofs.YtapkfblkghoknaaDoorW.PrintWords Go.Proofs.YtapkfblkghoknaaDoorW.PrintLast Go.Proofs.YtapkfblkghoknaaDoorW.PrintMore
attribute [local go_sem] max2_int min2_int max_two min_two max_three min_three max_four min_four   -- for this text's walks alone
set_option linter.unusedVariables false
set_option linter.unusedSimpArgs false

/-! ### backsteplaw02_LexerNames: function 8 -/
def backsteplaw02_LexerNames.j0 : Nat → ByteArray → Bool → Option (Bool)
  | 0, _, _ => none
  | k + 1, x0, x31 => if x31 = true then (some false) else ((lexer_Name.f x0).bind fun t271 => (if t271 = true then ((lexer_Lex.f x0).bind fun bt272 => (if bt272.2.2 = 0 then (if (bt272.1.length : Int) = 1 then (if 0 < (bt272.1.length : Int) then (some (((rd_T33 bt272.1 0).f0) == 1)) else (none)) else (some false)) else (some false))) else ((lexer_Keyword.f x0).bind fun t278 => (if t278 = true then ((lexer_Lex.f x0).bind fun bt279 => (if bt279.2.2 = 0 then (if (bt279.1.length : Int) = 1 then (if 0 < (bt279.1.length : Int) then (some (((rd_T33 bt279.1 0).f0) == 1)) else (none)) else (some false)) else (some false))) else (some true)))))
def backsteplaw02_LexerNames.f (k : Nat) (a0 : ByteArray) : Option (Bool) := (backsteplaw02_awake.f).bind fun t261 => (if t261 = true then (if (a0.size : Int) > 60 then (some true) else ((lexer_Name.f a0).bind fun t262 => ((backstepref02_Name.f k a0).bind fun t263 => (if (t262 != t263) = true then (backsteplaw02_LexerNames.j0 k a0 true) else ((lexer_Keyword.f a0).bind fun t264 => ((backstepref02_Keywords.f).bind fun t265 => ((backstepref02_In.f k t265 a0).bind fun t268 => (if (t264 != t268) = true then (backsteplaw02_LexerNames.j0 k a0 true) else ((lexer_Name.f a0).bind fun t269 => (if t269 = true then ((lexer_Keyword.f a0).bind fun t270 => (backsteplaw02_LexerNames.j0 k a0 t270)) else (backsteplaw02_LexerNames.j0 k a0 false))))))))))) else (some false))
theorem backsteplaw02_LexerNames.mono_l : ∀ k, (∀ y0 y1, LeO (backsteplaw02_LexerNames.j0 k y0 y1) (backsteplaw02_LexerNames.j0 (k + 1) y0 y1))
  | 0 => fun _ _ r h => by simp [backsteplaw02_LexerNames.j0] at h
  | k + 1 => by
    have ih0 := backsteplaw02_LexerNames.mono_l k
    · intro y0 y1
      unfold backsteplaw02_LexerNames.j0
      repeat' first
      | (with_reducible exact ih0 _ _)
      | (with_reducible exact backstepref02_In.mono _ _ _)
      | (with_reducible exact backstepref02_Name.mono _ _)
      | (with_reducible exact LeO.refl _)
      | (with_reducible exact LeO.none _)
      | (with_reducible refine LeO.ite ?_ ?_)
      | (with_reducible refine LeO.bind ?_ (fun _ => ?_))
      | exact ih0 _ _
      | exact backstepref02_In.mono _ _ _
      | exact backstepref02_Name.mono _ _
      | exact LeO.none _
      | refine LeO.ite ?_ ?_
      | refine LeO.bind ?_ (fun _ => ?_)
theorem backsteplaw02_LexerNames.mono : ∀ a0 k, LeO (backsteplaw02_LexerNames.f k a0) (backsteplaw02_LexerNames.f (k + 1) a0) := by
  intro a0 k
  have ih0 := backsteplaw02_LexerNames.mono_l k
  unfold backsteplaw02_LexerNames.f
  repeat' first
      | (with_reducible exact ih0 _ _)
      | (with_reducible exact backstepref02_In.mono _ _ _)
      | (with_reducible exact backstepref02_Name.mono _ _)
      | (with_reducible exact LeO.refl _)
      | (with_reducible exact LeO.none _)
      | (with_reducible refine LeO.ite ?_ ?_)
      | (with_reducible refine LeO.bind ?_ (fun _ => ?_))
      | exact ih0 _ _
      | exact backstepref02_In.mono _ _ _
      | exact backstepref02_Name.mono _ _
      | exact LeO.none _
      | refine LeO.ite ?_ ?_
      | refine LeO.bind ?_ (fun _ => ?_)
set_option maxHeartbeats 8000000 in
set_option maxRecDepth 100000 in
theorem backsteplaw02_LexerNames.calls (k : Nat) (a0 : ByteArray) (r : Bool) (w : World) (htab : Tab w) (h : backsteplaw02_LexerNames.f k a0 = some r) :
    Calls Tryd.prog 8 #[.string a0] w fun e w' => e = .returned (.bool r) ∧ Below w.heap.size w w' := by
  have HTAB := Aside0.mk htab
  clear htab
  have HB := Aside0.mk (Below.refl w.heap.size w)
  have H : ((backsteplaw02_awake.f).bind fun t261 => (if t261 = true then (if (a0.size : Int) > 60 then (some true) else ((lexer_Name.f a0).bind fun t262 => ((backstepref02_Name.f k a0).bind fun t263 => (if (t262 != t263) = true then (backsteplaw02_LexerNames.j0 k a0 true) else ((lexer_Keyword.f a0).bind fun t264 => ((backstepref02_Keywords.f).bind fun t265 => ((backstepref02_In.f k t265 a0).bind fun t268 => (if (t264 != t268) = true then (backsteplaw02_LexerNames.j0 k a0 true) else ((lexer_Name.f a0).bind fun t269 => (if t269 = true then ((lexer_Keyword.f a0).bind fun t270 => (backsteplaw02_LexerNames.j0 k a0 t270)) else (backsteplaw02_LexerNames.j0 k a0 false))))))))))) else (some false))) = some r := h
  clear h
  replace H := Option.bind_eq_some_iff.mp H
  obtain ⟨t261, A20, H⟩ := H
  replace H : (if t261 = true then (if (a0.size : Int) > 60 then (some true) else ((lexer_Name.f a0).bind fun t262 => ((backstepref02_Name.f k a0).bind fun t263 => (if (t262 != t263) = true then (backsteplaw02_LexerNames.j0 k a0 true) else ((lexer_Keyword.f a0).bind fun t264 => ((backstepref02_Keywords.f).bind fun t265 => ((backstepref02_In.f k t265 a0).bind fun t268 => (if (t264 != t268) = true then (backsteplaw02_LexerNames.j0 k a0 true) else ((lexer_Name.f a0).bind fun t269 => (if t269 = true then ((lexer_Keyword.f a0).bind fun t270 => (backsteplaw02_LexerNames.j0 k a0 t270)) else (backsteplaw02_LexerNames.j0 k a0 false))))))))))) else (some false)) = some r := H
  have A2 := Aside0.mk A20
  clear A20
  by_cases c3 : t261 = true
  · subst c3
    have H1 : (if (a0.size : Int) > 60 then (some true) else ((lexer_Name.f a0).bind fun t262 => ((backstepref02_Name.f k a0).bind fun t263 => (if (t262 != t263) = true then (backsteplaw02_LexerNames.j0 k a0 true) else ((lexer_Keyword.f a0).bind fun t264 => ((backstepref02_Keywords.f).bind fun t265 => ((backstepref02_In.f k t265 a0).bind fun t268 => (if (t264 != t268) = true then (backsteplaw02_LexerNames.j0 k a0 true) else ((lexer_Name.f a0).bind fun t269 => (if t269 = true then ((lexer_Keyword.f a0).bind fun t270 => (backsteplaw02_LexerNames.j0 k a0 t270)) else (backsteplaw02_LexerNames.j0 k a0 false))))))))))) = some r := by rw [if_pos rfl] at H; exact H
    clear H
    have H := H1
    clear H1
    by_cases c4 : (a0.size : Int) > 60
    · rw [if_pos c4] at H
      have c4b0 : decide (60 < (a0.size : Int)) = true := decide_eq_true c4
      have c4b1 : decide (60 < a0.size) = true := decide_eq_true (by omega)
      clear c4
      obtain rfl := Option.some.inj H
      go_enter Tryd.func8, Tryd.ntmps8
      go_wp2_with (first | ((with_reducible refine gate_callee (f := 12) rfl ?_); refine goesL_ (some 6) rfl rfl Tryd.func12 (by kernel_rfl) rfl #[] rfl (by (try simp only [List.map_toArray, List.map_cons, List.map_nil]); first | done | rfl | (simp only [List.length_drop, List.length_take]; rfl)) ?_; (with_reducible refine (backsteplaw02_awake.calls  true _ (Tab.below HTAB.out (by repeat (first | (with_reducible first | exact HB.out | exact Below.refl _ _ | apply below_alloc | apply pw_below_drewN | apply below_drew1) | exact HB.out))) A2.out).mono ?_); rintro e w5 ⟨rfl, hb⟩; refine ⟨_, rfl, ?_⟩; have n0_ := Aside0.mk (below_step (by repeat (first | (with_reducible first | exact HB.out | apply below_alloc | apply pw_below_drewN | apply below_drew1) | exact HB.out)) hb); clear HB; have HB := n0_; clear n0_; (try clear hb); (try clear hb2); (try clear hk); (try clear hi)))
      go_ret
      exact ⟨by first | rfl | (simp [errW_none, errW_some] <;> rfl) | (simp [*, errW_none, errW_some] <;> rfl), by repeat (first | (with_reducible first | exact HB.out | apply below_alloc | apply pw_below_drewN | apply below_drew1) | exact HB.out)⟩
    · rw [if_neg c4] at H
      have c4b0 : decide (60 < (a0.size : Int)) = false := decide_eq_false c4
      have c4b1 : decide (60 < a0.size) = false := decide_eq_false (by omega)
      clear c4
      have HC6 := Aside0.mk H
      clear H
      go_enter Tryd.func8, Tryd.ntmps8
      go_upto_region 5 with (first | ((with_reducible refine gate_callee (f := 12) rfl ?_); refine goesL_ (some 6) rfl rfl Tryd.func12 (by kernel_rfl) rfl #[] rfl (by (try simp only [List.map_toArray, List.map_cons, List.map_nil]); first | done | rfl | (simp only [List.length_drop, List.length_take]; rfl)) ?_; (with_reducible refine (backsteplaw02_awake.calls  true _ (Tab.below HTAB.out (by repeat (first | (with_reducible first | exact HB.out | exact Below.refl _ _ | apply below_alloc | apply pw_below_drewN | apply below_drew1) | exact HB.out))) A2.out).mono ?_); rintro e w7 ⟨rfl, hb⟩; refine ⟨_, rfl, ?_⟩; have n0_ := Aside0.mk (below_step (by repeat (first | (with_reducible first | exact HB.out | apply below_alloc | apply pw_below_drewN | apply below_drew1) | exact HB.out)) hb); clear HB; have HB := n0_; clear n0_; (try clear hb); (try clear hb2); (try clear hk); (try clear hi)))
      (try simp only [Act.put, List.setIfInBounds_toArray, List.set_cons_zero, List.set_cons_succ])
      go_cut [31] (fun v31 wc => ∃ (kq : Nat) (x31_5 : Bool), v31 = .bool x31_5 ∧ Aside0 (backsteplaw02_LexerNames.j0 kq a0 x31_5 = some r) ∧ Aside0 (kq ≤ k) ∧ Aside0 (Below w.heap.size w wc))
      case first =>
        have H := HC6.out
        clear HC6
        replace H := Option.bind_eq_some_iff.mp H
        obtain ⟨t262, A80, H⟩ := H
        replace H : ((backstepref02_Name.f k a0).bind fun t263 => (if (t262 != t263) = true then (backsteplaw02_LexerNames.j0 k a0 true) else ((lexer_Keyword.f a0).bind fun t264 => ((backstepref02_Keywords.f).bind fun t265 => ((backstepref02_In.f k t265 a0).bind fun t268 => (if (t264 != t268) = true then (backsteplaw02_LexerNames.j0 k a0 true) else ((lexer_Name.f a0).bind fun t269 => (if t269 = true then ((lexer_Keyword.f a0).bind fun t270 => (backsteplaw02_LexerNames.j0 k a0 t270)) else (backsteplaw02_LexerNames.j0 k a0 false))))))))) = some r := H
        have A8 := Aside0.mk A80
        clear A80
        replace H := Option.bind_eq_some_iff.mp H
        obtain ⟨t263, A90, H⟩ := H
        replace H : (if (t262 != t263) = true then (backsteplaw02_LexerNames.j0 k a0 true) else ((lexer_Keyword.f a0).bind fun t264 => ((backstepref02_Keywords.f).bind fun t265 => ((backstepref02_In.f k t265 a0).bind fun t268 => (if (t264 != t268) = true then (backsteplaw02_LexerNames.j0 k a0 true) else ((lexer_Name.f a0).bind fun t269 => (if t269 = true then ((lexer_Keyword.f a0).bind fun t270 => (backsteplaw02_LexerNames.j0 k a0 t270)) else (backsteplaw02_LexerNames.j0 k a0 false)))))))) = some r := H
        have A9 := Aside0.mk A90
        clear A90
        by_cases c10 : (t262 != t263) = true
        · rw [if_pos c10] at H
          have c10b0 : (t262 != t263) = true := c10
          (try (have c10b1 : decide (t262 = t263) = false := by simpa using c10))
          (try (have c10b2 : (t262 == t263) = false := by simpa using c10))
          (try (have c10b3 : ¬ (t262 = t263) := by simpa using c10))
          clear c10
          (first | rw [c10b0] | (simp only [i64_w, i32_w]; rw [c10b0]) | skip)
          have H' := Aside0.mk H
          clear H
          go_wp2_with (first | ((with_reducible refine gate_callee (f := 17) rfl ?_); refine goesL_ (some 12) rfl rfl Tryd.func17 (by kernel_rfl) rfl #[.string a0] rfl (by (try simp only [List.map_toArray, List.map_cons, List.map_nil]); first | done | rfl | (simp only [List.length_drop, List.length_take]; rfl)) ?_; (with_reducible refine (lexer_Name.calls a0 t262 _ (Tab.below HTAB.out (by repeat (first | (with_reducible first | exact HB.out | exact Below.refl _ _ | apply below_alloc | apply pw_below_drewN | apply below_drew1) | exact HB.out))) A8.out).mono ?_); rintro e w11 ⟨rfl, hb⟩; refine ⟨_, rfl, ?_⟩; have n0_ := Aside0.mk (below_step (by repeat (first | (with_reducible first | exact HB.out | apply below_alloc | apply pw_below_drewN | apply below_drew1) | exact HB.out)) hb); clear HB; have HB := n0_; clear n0_; (try clear hb); (try clear hb2); (try clear hk); (try clear hi)) | ((with_reducible refine gate_callee (f := 18) rfl ?_); refine goesL_ (some 14) rfl rfl Tryd.func18 (by kernel_rfl) rfl #[.string a0] rfl (by (try simp only [List.map_toArray, List.map_cons, List.map_nil]); first | done | rfl | (simp only [List.length_drop, List.length_take]; rfl)) ?_; (with_reducible refine (backstepref02_Name.calls k a0 t263 _ A9.out).mono ?_); rintro e w12 ⟨rfl, hb⟩; refine ⟨_, rfl, ?_⟩; have n0_ := Aside0.mk (below_step (by repeat (first | (with_reducible first | exact HB.out | apply below_alloc | apply pw_below_drewN | apply below_drew1) | exact HB.out)) hb); clear HB; have HB := n0_; clear n0_; (try clear hb); (try clear hb2); (try clear hk); (try clear hi)))
          go_meet
          case rel => exact ⟨_, (true), (by first | rfl | (simp; done) | (simp [*]; done)), H', ⟨by first | omega | exact Nat.le_refl _⟩, ⟨by repeat (first | (with_reducible first | exact HB.out | apply below_alloc | apply pw_below_drewN | apply below_drew1) | exact HB.out)⟩⟩
        · rw [if_neg c10] at H
          have c10b0 : (t262 != t263) = false := by simpa using c10
          (try (have c10b1 : decide (t262 = t263) = true := by simpa using c10))
          (try (have c10b2 : (t262 == t263) = true := by simpa using c10))
          clear c10
          (first | rw [c10b0] | (simp only [i64_w, i32_w]; rw [c10b0]) | skip)
          replace H := Option.bind_eq_some_iff.mp H
          obtain ⟨t264, A130, H⟩ := H
          replace H : ((backstepref02_Keywords.f).bind fun t265 => ((backstepref02_In.f k t265 a0).bind fun t268 => (if (t264 != t268) = true then (backsteplaw02_LexerNames.j0 k a0 true) else ((lexer_Name.f a0).bind fun t269 => (if t269 = true then ((lexer_Keyword.f a0).bind fun t270 => (backsteplaw02_LexerNames.j0 k a0 t270)) else (backsteplaw02_LexerNames.j0 k a0 false)))))) = some r := H
          have A13 := Aside0.mk A130
          clear A130
          replace H := Option.bind_eq_some_iff.mp H
          obtain ⟨t265, A140, H⟩ := H
          replace H : ((backstepref02_In.f k t265 a0).bind fun t268 => (if (t264 != t268) = true then (backsteplaw02_LexerNames.j0 k a0 true) else ((lexer_Name.f a0).bind fun t269 => (if t269 = true then ((lexer_Keyword.f a0).bind fun t270 => (backsteplaw02_LexerNames.j0 k a0 t270)) else (backsteplaw02_LexerNames.j0 k a0 false))))) = some r := H
          have A14 := Aside0.mk A140
          clear A140
          replace H := Option.bind_eq_some_iff.mp H
          obtain ⟨t268, A150, H⟩ := H
          replace H : (if (t264 != t268) = true then (backsteplaw02_LexerNames.j0 k a0 true) else ((lexer_Name.f a0).bind fun t269 => (if t269 = true then ((lexer_Keyword.f a0).bind fun t270 => (backsteplaw02_LexerNames.j0 k a0 t270)) else (backsteplaw02_LexerNames.j0 k a0 false)))) = some r := H
          have A15 := Aside0.mk A150
          clear A150
          by_cases c16 : (t264 != t268) = true
          · rw [if_pos c16] at H
            have c16b0 : (t264 != t268) = true := c16
            (try (have c16b1 : decide (t264 = t268) = false := by simpa using c16))
            (try (have c16b2 : (t264 == t268) = false := by simpa using c16))
            (try (have c16b3 : ¬ (t264 = t268) := by simpa using c16))
            clear c16
            have H' := Aside0.mk H
            clear H
            go_wp2_with (first | ((with_reducible refine gate_callee (f := 17) rfl ?_); refine goesL_ (some 12) rfl rfl Tryd.func17 (by kernel_rfl) rfl #[.string a0] rfl (by (try simp only [List.map_toArray, List.map_cons, List.map_nil]); first | done | rfl | (simp only [List.length_drop, List.length_take]; rfl)) ?_; (with_reducible refine (lexer_Name.calls a0 t262 _ (Tab.below HTAB.out (by repeat (first | (with_reducible first | exact HB.out | exact Below.refl _ _ | apply below_alloc | apply pw_below_drewN | apply below_drew1) | exact HB.out))) A8.out).mono ?_); rintro e w17 ⟨rfl, hb⟩; refine ⟨_, rfl, ?_⟩; have n0_ := Aside0.mk (below_step (by repeat (first | (with_reducible first | exact HB.out | apply below_alloc | apply pw_below_drewN | apply below_drew1) | exact HB.out)) hb); clear HB; have HB := n0_; clear n0_; (try clear hb); (try clear hb2); (try clear hk); (try clear hi)) | ((with_reducible refine gate_callee (f := 18) rfl ?_); refine goesL_ (some 14) rfl rfl Tryd.func18 (by kernel_rfl) rfl #[.string a0] rfl (by (try simp only [List.map_toArray, List.map_cons, List.map_nil]); first | done | rfl | (simp only [List.length_drop, List.length_take]; rfl)) ?_; (with_reducible refine (backstepref02_Name.calls k a0 t263 _ A9.out).mono ?_); rintro e w18 ⟨rfl, hb⟩; refine ⟨_, rfl, ?_⟩; have n0_ := Aside0.mk (below_step (by repeat (first | (with_reducible first | exact HB.out | apply below_alloc | apply pw_below_drewN | apply below_drew1) | exact HB.out)) hb); clear HB; have HB := n0_; clear n0_; (try clear hb); (try clear hb2); (try clear hk); (try clear hi)) | (go_at_call 19; (with_reducible refine (lexer_Keyword.calls a0 t264 _ (Tab.below HTAB.out (by repeat (first | (with_reducible first | exact HB.out | exact Below.refl _ _ | apply below_alloc | apply pw_below_drewN | apply below_drew1) | exact HB.out))) A13.out).mono ?_); rintro e w19 ⟨rfl, hb⟩; have n0_ := Aside0.mk (below_step (by repeat (first | (with_reducible first | exact HB.out | apply below_alloc | apply pw_below_drewN | apply below_drew1) | exact HB.out)) hb); clear HB; have HB := n0_; clear n0_; (try clear hb); (try clear hb2); (try clear hk); (try clear hi)) | (go_at_call 21; (with_reducible refine (backstepref02_Keywords.calls  t265 _ A14.out).mono ?_); rintro e w20 ⟨v266, rfl, ho0, hb⟩; have n0_ := Aside0.mk (Kd.R_lower ho0 (below_size (by repeat (first | (with_reducible first | exact HB.out | apply below_alloc | apply pw_below_drewN | apply below_drew1) | exact HB.out)))); have n1_ := Aside0.mk (below_step (by repeat (first | (with_reducible first | exact HB.out | apply below_alloc | apply pw_below_drewN | apply below_drew1) | exact HB.out)) hb); clear HB; have HO267 := n0_; have HB := n1_; clear n0_ n1_; (try clear hb); (try clear hb2); (try clear hk); (try clear hi); (try clear ho0); obtain ⟨Ao21, co21, eo21⟩ := Kd.R_slice HO267.out; subst eo21) | (go_at_call 20; (with_reducible refine (backstepref02_In.calls k _ _ t265 a0 t268 _ ?side1 ?side2 A15.out).mono ?_); (case side1 => repeat (first | exact (Kd.R_reads' HO267.out).2.2 | (with_reducible refine Kd.C_alloc ?_ _) | (with_reducible refine Kd.C_drewN ?_ _) | (with_reducible refine Kd.C_drew ?_))); (case side2 => exact (Kd.R_reads' HO267.out).2.1); rintro e w' ⟨rfl, ⟨nd, rfl⟩⟩))
            go_meet
            case rel => exact ⟨_, (true), (by first | rfl | (simp; done) | (simp [*]; done)), H', ⟨by first | omega | exact Nat.le_refl _⟩, ⟨by repeat (first | (with_reducible first | exact HB.out | apply below_alloc | apply pw_below_drewN | apply below_drew1) | exact HB.out)⟩⟩
          · rw [if_neg c16] at H
            have c16b0 : (t264 != t268) = false := by simpa using c16
            (try (have c16b1 : decide (t264 = t268) = true := by simpa using c16))
            (try (have c16b2 : (t264 == t268) = true := by simpa using c16))
            clear c16
            replace H := Option.bind_eq_some_iff.mp H
            obtain ⟨t269, A220, H⟩ := H
            replace H : (if t269 = true then ((lexer_Keyword.f a0).bind fun t270 => (backsteplaw02_LexerNames.j0 k a0 t270)) else (backsteplaw02_LexerNames.j0 k a0 false)) = some r := H
            have A22 := Aside0.mk A220
            clear A220
            by_cases c23 : t269 = true
            · subst c23
              have H1 : ((lexer_Keyword.f a0).bind fun t270 => (backsteplaw02_LexerNames.j0 k a0 t270)) = some r := by rw [if_pos rfl] at H; exact H
              clear H
              have H := H1
              clear H1
              replace H := Option.bind_eq_some_iff.mp H
              obtain ⟨t270, A240, H⟩ := H
              replace H : (backsteplaw02_LexerNames.j0 k a0 t270) = some r := H
              have A24 := Aside0.mk A240
              clear A240
              have H' := Aside0.mk H
              clear H
              go_wp2_with (first | ((with_reducible refine gate_callee (f := 17) rfl ?_); refine goesL_ (some 12) rfl rfl Tryd.func17 (by kernel_rfl) rfl #[.string a0] rfl (by (try simp only [List.map_toArray, List.map_cons, List.map_nil]); first | done | rfl | (simp only [List.length_drop, List.length_take]; rfl)) ?_; (with_reducible refine (lexer_Name.calls a0 t262 _ (Tab.below HTAB.out (by repeat (first | (with_reducible first | exact HB.out | exact Below.refl _ _ | apply below_alloc | apply pw_below_drewN | apply below_drew1) | exact HB.out))) A8.out).mono ?_); rintro e w25 ⟨rfl, hb⟩; refine ⟨_, rfl, ?_⟩; have n0_ := Aside0.mk (below_step (by repeat (first | (with_reducible first | exact HB.out | apply below_alloc | apply pw_below_drewN | apply below_drew1) | exact HB.out)) hb); clear HB; have HB := n0_; clear n0_; (try clear hb); (try clear hb2); (try clear hk); (try clear hi)) | ((with_reducible refine gate_callee (f := 18) rfl ?_); refine goesL_ (some 14) rfl rfl Tryd.func18 (by kernel_rfl) rfl #[.string a0] rfl (by (try simp only [List.map_toArray, List.map_cons, List.map_nil]); first | done | rfl | (simp only [List.length_drop, List.length_take]; rfl)) ?_; (with_reducible refine (backstepref02_Name.calls k a0 t263 _ A9.out).mono ?_); rintro e w26 ⟨rfl, hb⟩; refine ⟨_, rfl, ?_⟩; have n0_ := Aside0.mk (below_step (by repeat (first | (with_reducible first | exact HB.out | apply below_alloc | apply pw_below_drewN | apply below_drew1) | exact HB.out)) hb); clear HB; have HB := n0_; clear n0_; (try clear hb); (try clear hb2); (try clear hk); (try clear hi)) | (go_at_call 19; (with_reducible refine (lexer_Keyword.calls a0 t264 _ (Tab.below HTAB.out (by repeat (first | (with_reducible first | exact HB.out | exact Below.refl _ _ | apply below_alloc | apply pw_below_drewN | apply below_drew1) | exact HB.out))) A13.out).mono ?_); rintro e w27 ⟨rfl, hb⟩; have n0_ := Aside0.mk (below_step (by repeat (first | (with_reducible first | exact HB.out | apply below_alloc | apply pw_below_drewN | apply below_drew1) | exact HB.out)) hb); clear HB; have HB := n0_; clear n0_; (try clear hb); (try clear hb2); (try clear hk); (try clear hi)) | (go_at_call 21; (with_reducible refine (backstepref02_Keywords.calls  t265 _ A14.out).mono ?_); rintro e w28 ⟨v266, rfl, ho0, hb⟩; have n0_ := Aside0.mk (Kd.R_lower ho0 (below_size (by repeat (first | (with_reducible first | exact HB.out | apply below_alloc | apply pw_below_drewN | apply below_drew1) | exact HB.out)))); have n1_ := Aside0.mk (below_step (by repeat (first | (with_reducible first | exact HB.out | apply below_alloc | apply pw_below_drewN | apply below_drew1) | exact HB.out)) hb); clear HB; have HO267 := n0_; have HB := n1_; clear n0_ n1_; (try clear hb); (try clear hb2); (try clear hk); (try clear hi); (try clear ho0); obtain ⟨Ao29, co29, eo29⟩ := Kd.R_slice HO267.out; subst eo29) | (go_at_call 20; (with_reducible refine (backstepref02_In.calls k _ _ t265 a0 t268 _ ?side1 ?side2 A15.out).mono ?_); (case side1 => repeat (first | exact (Kd.R_reads' HO267.out).2.2 | (with_reducible refine Kd.C_alloc ?_ _) | (with_reducible refine Kd.C_drewN ?_ _) | (with_reducible refine Kd.C_drew ?_))); (case side2 => exact (Kd.R_reads' HO267.out).2.1); rintro e w' ⟨rfl, ⟨nd, rfl⟩⟩) | (go_at_call 17; (with_reducible refine (lexer_Name.calls a0 true _ (Tab.below HTAB.out (by repeat (first | (with_reducible first | exact HB.out | exact Below.refl _ _ | apply below_alloc | apply pw_below_drewN | apply below_drew1) | exact HB.out))) A22.out).mono ?_); rintro e w30 ⟨rfl, hb⟩; have n0_ := Aside0.mk (Kd.R_below (by (with_reducible repeat (first | apply Kd.R_alloc | apply Kd.R_drewN | apply Kd.R_drew)); exact HO267.out) hb); have n1_ := Aside0.mk (below_step (by repeat (first | (with_reducible first | exact HB.out | apply below_alloc | apply pw_below_drewN | apply below_drew1) | exact HB.out)) hb); clear HO267; clear HB; have HO267 := n0_; have HB := n1_; clear n0_ n1_; (try clear hb); (try clear hb2); (try clear hk); (try clear hi)) | (go_at_call 19; (with_reducible refine (lexer_Keyword.calls a0 t270 _ (Tab.below HTAB.out (by repeat (first | (with_reducible first | exact HB.out | exact Below.refl _ _ | apply below_alloc | apply pw_below_drewN | apply below_drew1) | exact HB.out))) A24.out).mono ?_); rintro e w31 ⟨rfl, hb⟩; have n0_ := Aside0.mk (Kd.R_below (by (with_reducible repeat (first | apply Kd.R_alloc | apply Kd.R_drewN | apply Kd.R_drew)); exact HO267.out) hb); have n1_ := Aside0.mk (below_step (by repeat (first | (with_reducible first | exact HB.out | apply below_alloc | apply pw_below_drewN | apply below_drew1) | exact HB.out)) hb); clear HO267; clear HB; have HO267 := n0_; have HB := n1_; clear n0_ n1_; (try clear hb); (try clear hb2); (try clear hk); (try clear hi)))
              go_meet
              case rel => have E_ : t264 = t270 := Option.some.inj (A13.out.symm.trans A24.out); exact ⟨_, (t270), (by first | rfl | (simp; done) | (simp [*]; done)), H', ⟨by first | omega | exact Nat.le_refl _⟩, ⟨by repeat (first | (with_reducible first | exact HB.out | apply below_alloc | apply pw_below_drewN | apply below_drew1) | exact HB.out)⟩⟩
            · replace c23 := Bool.eq_false_iff.mpr c23
              subst c23
              have H1 : (backsteplaw02_LexerNames.j0 k a0 false) = some r := by rw [if_neg (show ¬ (false = true) by decide)] at H; exact H
              clear H
              have H := H1
              clear H1
              have H' := Aside0.mk H
              clear H
              go_wp2_with (first | ((with_reducible refine gate_callee (f := 17) rfl ?_); refine goesL_ (some 12) rfl rfl Tryd.func17 (by kernel_rfl) rfl #[.string a0] rfl (by (try simp only [List.map_toArray, List.map_cons, List.map_nil]); first | done | rfl | (simp only [List.length_drop, List.length_take]; rfl)) ?_; (with_reducible refine (lexer_Name.calls a0 t262 _ (Tab.below HTAB.out (by repeat (first | (with_reducible first | exact HB.out | exact Below.refl _ _ | apply below_alloc | apply pw_below_drewN | apply below_drew1) | exact HB.out))) A8.out).mono ?_); rintro e w32 ⟨rfl, hb⟩; refine ⟨_, rfl, ?_⟩; have n0_ := Aside0.mk (below_step (by repeat (first | (with_reducible first | exact HB.out | apply below_alloc | apply pw_below_drewN | apply below_drew1) | exact HB.out)) hb); clear HB; have HB := n0_; clear n0_; (try clear hb); (try clear hb2); (try clear hk); (try clear hi)) | ((with_reducible refine gate_callee (f := 18) rfl ?_); refine goesL_ (some 14) rfl rfl Tryd.func18 (by kernel_rfl) rfl #[.string a0] rfl (by (try simp only [List.map_toArray, List.map_cons, List.map_nil]); first | done | rfl | (simp only [List.length_drop, List.length_take]; rfl)) ?_; (with_reducible refine (backstepref02_Name.calls k a0 t263 _ A9.out).mono ?_); rintro e w33 ⟨rfl, hb⟩; refine ⟨_, rfl, ?_⟩; have n0_ := Aside0.mk (below_step (by repeat (first | (with_reducible first | exact HB.out | apply below_alloc | apply pw_below_drewN | apply below_drew1) | exact HB.out)) hb); clear HB; have HB := n0_; clear n0_; (try clear hb); (try clear hb2); (try clear hk); (try clear hi)) | (go_at_call 19; (with_reducible refine (lexer_Keyword.calls a0 t264 _ (Tab.below HTAB.out (by repeat (first | (with_reducible first | exact HB.out | exact Below.refl _ _ | apply below_alloc | apply pw_below_drewN | apply below_drew1) | exact HB.out))) A13.out).mono ?_); rintro e w34 ⟨rfl, hb⟩; have n0_ := Aside0.mk (below_step (by repeat (first | (with_reducible first | exact HB.out | apply below_alloc | apply pw_below_drewN | apply below_drew1) | exact HB.out)) hb); clear HB; have HB := n0_; clear n0_; (try clear hb); (try clear hb2); (try clear hk); (try clear hi)) | (go_at_call 21; (with_reducible refine (backstepref02_Keywords.calls  t265 _ A14.out).mono ?_); rintro e w35 ⟨v266, rfl, ho0, hb⟩; have n0_ := Aside0.mk (Kd.R_lower ho0 (below_size (by repeat (first | (with_reducible first | exact HB.out | apply below_alloc | apply pw_below_drewN | apply below_drew1) | exact HB.out)))); have n1_ := Aside0.mk (below_step (by repeat (first | (with_reducible first | exact HB.out | apply below_alloc | apply pw_below_drewN | apply below_drew1) | exact HB.out)) hb); clear HB; have HO267 := n0_; have HB := n1_; clear n0_ n1_; (try clear hb); (try clear hb2); (try clear hk); (try clear hi); (try clear ho0); obtain ⟨Ao36, co36, eo36⟩ := Kd.R_slice HO267.out; subst eo36) | (go_at_call 20; (with_reducible refine (backstepref02_In.calls k _ _ t265 a0 t268 _ ?side1 ?side2 A15.out).mono ?_); (case side1 => repeat (first | exact (Kd.R_reads' HO267.out).2.2 | (with_reducible refine Kd.C_alloc ?_ _) | (with_reducible refine Kd.C_drewN ?_ _) | (with_reducible refine Kd.C_drew ?_))); (case side2 => exact (Kd.R_reads' HO267.out).2.1); rintro e w' ⟨rfl, ⟨nd, rfl⟩⟩) | (go_at_call 17; (with_reducible refine (lexer_Name.calls a0 false _ (Tab.below HTAB.out (by repeat (first | (with_reducible first | exact HB.out | exact Below.refl _ _ | apply below_alloc | apply pw_below_drewN | apply below_drew1) | exact HB.out))) A22.out).mono ?_); rintro e w37 ⟨rfl, hb⟩; have n0_ := Aside0.mk (Kd.R_below (by (with_reducible repeat (first | apply Kd.R_alloc | apply Kd.R_drewN | apply Kd.R_drew)); exact HO267.out) hb); have n1_ := Aside0.mk (below_step (by repeat (first | (with_reducible first | exact HB.out | apply below_alloc | apply pw_below_drewN | apply below_drew1) | exact HB.out)) hb); clear HO267; clear HB; have HO267 := n0_; have HB := n1_; clear n0_ n1_; (try clear hb); (try clear hb2); (try clear hk); (try clear hi)))
              go_meet
              case rel => exact ⟨_, (false), (by first | rfl | (simp; done) | (simp [*]; done)), H', ⟨by first | omega | exact Nat.le_refl _⟩, ⟨by repeat (first | (with_reducible first | exact HB.out | apply below_alloc | apply pw_below_drewN | apply below_drew1) | exact HB.out)⟩⟩
      case rest =>
        clear HC6
        try clear c1
        try clear c2
        try clear p2
        try clear c3
        try clear c4
        try clear c4b0
        try clear c4b1
        try clear c8
        try clear c10
        try clear c10b0
        try clear c10b1
        try clear c10b2
        try clear c12
        try clear c16
        try clear c16b0
        try clear c16b1
        try clear c16b2
        try clear c17
        try clear c18
        try clear c23
        obtain ⟨kq, x31_5, rfl, HA, HJ5, HB⟩ := hcut
        cases kq with
        | zero => exact absurd HA.out (by simp [backsteplaw02_LexerNames.j0])
        | succ kj5 =>
          have H := HA.out
          clear HA
          simp only [backsteplaw02_LexerNames.j0] at H
          by_cases c38 : x31_5 = true
          · subst c38
            have H1 : (some false) = some r := by rw [if_pos rfl] at H; exact H
            clear H
            have H := H1
            clear H1
            obtain rfl := Option.some.inj H
            go_wp2
            go_ret
            exact ⟨by first | rfl | (simp [errW_none, errW_some] <;> rfl) | (simp [*, errW_none, errW_some] <;> rfl), by repeat (first | (with_reducible first | exact HB.out | apply below_alloc | apply pw_below_drewN | apply below_drew1) | exact HB.out)⟩
          · replace c38 := Bool.eq_false_iff.mpr c38
            subst c38
            have H1 : ((lexer_Name.f a0).bind fun t271 => (if t271 = true then ((lexer_Lex.f a0).bind fun bt272 => (if bt272.2.2 = 0 then (if (bt272.1.length : Int) = 1 then (if 0 < (bt272.1.length : Int) then (some (((rd_T33 bt272.1 0).f0) == 1)) else (none)) else (some false)) else (some false))) else ((lexer_Keyword.f a0).bind fun t278 => (if t278 = true then ((lexer_Lex.f a0).bind fun bt279 => (if bt279.2.2 = 0 then (if (bt279.1.length : Int) = 1 then (if 0 < (bt279.1.length : Int) then (some (((rd_T33 bt279.1 0).f0) == 1)) else (none)) else (some false)) else (some false))) else (some true))))) = some r := by rw [if_neg (show ¬ (false = true) by decide)] at H; exact H
            clear H
            have H := H1
            clear H1
            replace H := Option.bind_eq_some_iff.mp H
            obtain ⟨t271, A390, H⟩ := H
            replace H : (if t271 = true then ((lexer_Lex.f a0).bind fun bt272 => (if bt272.2.2 = 0 then (if (bt272.1.length : Int) = 1 then (if 0 < (bt272.1.length : Int) then (some (((rd_T33 bt272.1 0).f0) == 1)) else (none)) else (some false)) else (some false))) else ((lexer_Keyword.f a0).bind fun t278 => (if t278 = true then ((lexer_Lex.f a0).bind fun bt279 => (if bt279.2.2 = 0 then (if (bt279.1.length : Int) = 1 then (if 0 < (bt279.1.length : Int) then (some (((rd_T33 bt279.1 0).f0) == 1)) else (none)) else (some false)) else (some false))) else (some true)))) = some r := H
            have A39 := Aside0.mk A390
            clear A390
            by_cases c40 : t271 = true
            · subst c40
              have H1 : ((lexer_Lex.f a0).bind fun bt272 => (if bt272.2.2 = 0 then (if (bt272.1.length : Int) = 1 then (if 0 < (bt272.1.length : Int) then (some (((rd_T33 bt272.1 0).f0) == 1)) else (none)) else (some false)) else (some false))) = some r := by rw [if_pos rfl] at H; exact H
              clear H
              have H := H1
              clear H1
              replace H := Option.bind_eq_some_iff.mp H
              obtain ⟨⟨t272, t273, t274⟩, A410, H⟩ := H
              replace H : (if t274 = 0 then (if (t272.length : Int) = 1 then (if 0 < (t272.length : Int) then (some (((rd_T33 t272 0).f0) == 1)) else (none)) else (some false)) else (some false)) = some r := H
              have A41 := Aside0.mk A410
              clear A410
              by_cases c42 : t274 = 0
              · rw [if_pos c42] at H
                have c42b0 : (t274 == 0) = true := beq_iff_eq.mpr c42
                have c42b1 : (t274 != 0) = false := bne_eq_false_iff_eq.mpr c42
                clear c42
                by_cases c43 : (t272.length : Int) = 1
                · rw [if_pos c43] at H
                  have c43b0 : ((t272.length : Int) == 1) = true := beq_iff_eq.mpr c43
                  have c43b1 : ((t272.length : Int) != 1) = false := bne_eq_false_iff_eq.mpr c43
                  clear c43
                  by_cases c44 : 0 < (t272.length : Int)
                  · rw [if_pos c44] at H
                    have c44b0 : decide (0 < (t272.length : Int)) = true := decide_eq_true c44
                    have c44b1 : decide (0 < t272.length) = true := decide_eq_true (by omega)
                    clear c44
                    obtain rfl := Option.some.inj H
                    go_wp2_with (first | ((with_reducible refine gate_callee (f := 17) rfl ?_); refine goesL_ (some 33) rfl rfl Tryd.func17 (by kernel_rfl) rfl #[.string a0] rfl (by (try simp only [List.map_toArray, List.map_cons, List.map_nil]); first | done | rfl | (simp only [List.length_drop, List.length_take]; rfl)) ?_; (with_reducible refine (lexer_Name.calls a0 true _ (Tab.below HTAB.out (by repeat (first | (with_reducible first | exact HB.out | exact Below.refl _ _ | apply below_alloc | apply pw_below_drewN | apply below_drew1) | exact HB.out))) A39.out).mono ?_); rintro e w45 ⟨rfl, hb⟩; refine ⟨_, rfl, ?_⟩; have n0_ := Aside0.mk (below_step (by repeat (first | (with_reducible first | exact HB.out | apply below_alloc | apply pw_below_drewN | apply below_drew1) | exact HB.out)) hb); clear HB; have HB := n0_; clear n0_; (try clear hb); (try clear hb2); (try clear hk); (try clear hi)) | ((with_reducible refine gate_callee (f := 13) rfl ?_); refine goesL_ (some 42) rfl rfl Tryd.func13 (by kernel_rfl) rfl #[.string a0] rfl (by (try simp only [List.map_toArray, List.map_cons, List.map_nil]); first | done | rfl | (simp only [List.length_drop, List.length_take]; rfl)) ?_; (with_reducible refine (lexer_Lex.calls a0 t272 t273 t274 _ (Tab.below HTAB.out (by repeat (first | (with_reducible first | exact HB.out | exact Below.refl _ _ | apply below_alloc | apply pw_below_drewN | apply below_drew1) | exact HB.out))) A41.out).mono ?_); rintro e w46 ⟨v275, rfl, ho0, hb⟩; refine ⟨_, rfl, ?_⟩; have n0_ := Aside0.mk (Kd.R_lower ho0 (below_size (by repeat (first | (with_reducible first | exact HB.out | apply below_alloc | apply pw_below_drewN | apply below_drew1) | exact HB.out)))); have n1_ := Aside0.mk (below_step (by repeat (first | (with_reducible first | exact HB.out | apply below_alloc | apply pw_below_drewN | apply below_drew1) | exact HB.out)) hb); clear HB; have HO276 := n0_; have HB := n1_; clear n0_ n1_; (try clear hb); (try clear hb2); (try clear hk); (try clear hi); (try clear ho0); obtain ⟨Ao47, co47, eo47⟩ := Kd.R_slice HO276.out; subst eo47; have p277 : 0 ≤ (0 : Int) := (by omega); have q277 : 0 < (t272.length : Int) := of_decide_eq_true (by first | (with_reducible assumption) | assumption); obtain ⟨ad277, e277, hx277_0, hx277_1, hx277_2⟩ := at_T33 (Kd.R_reads' HO276.out).2.2 0 p277 q277; cases e277; have qi277 : (0 < t272.length) = True := eq_true (by omega); (try rw [show ((0 : Int)).toNat = 0 from rfl] at hx277_0); (try rw [show 0 * 3 = 0 from rfl] at hx277_0); (try rw [Addr.add_zero'] at hx277_0); (try rw [show ((0 : Int)).toNat = 0 from rfl] at hx277_1); (try rw [show 0 * 3 = 0 from rfl] at hx277_1); (try rw [Addr.add_zero'] at hx277_1); (try rw [show ((0 : Int)).toNat = 0 from rfl] at hx277_2); (try rw [show 0 * 3 = 0 from rfl] at hx277_2); (try rw [Addr.add_zero'] at hx277_2); replace p277 := eq_true p277; replace q277 := eq_true q277))
                    go_ret
                    exact ⟨by first | rfl | (simp [errW_none, errW_some] <;> rfl) | (simp [*, errW_none, errW_some] <;> rfl), by repeat (first | (with_reducible first | exact HB.out | apply below_alloc | apply pw_below_drewN | apply below_drew1) | exact HB.out)⟩
                  · rw [if_neg c44] at H
                    exact absurd H (by simp)
                · rw [if_neg c43] at H
                  have c43b0 : ((t272.length : Int) == 1) = false := beq_eq_false_iff_ne.mpr c43
                  have c43b1 : ((t272.length : Int) != 1) = true := bne_iff_ne.mpr c43
                  obtain rfl := Option.some.inj H
                  go_wp2_with (first | ((with_reducible refine gate_callee (f := 17) rfl ?_); refine goesL_ (some 33) rfl rfl Tryd.func17 (by kernel_rfl) rfl #[.string a0] rfl (by (try simp only [List.map_toArray, List.map_cons, List.map_nil]); first | done | rfl | (simp only [List.length_drop, List.length_take]; rfl)) ?_; (with_reducible refine (lexer_Name.calls a0 true _ (Tab.below HTAB.out (by repeat (first | (with_reducible first | exact HB.out | exact Below.refl _ _ | apply below_alloc | apply pw_below_drewN | apply below_drew1) | exact HB.out))) A39.out).mono ?_); rintro e w48 ⟨rfl, hb⟩; refine ⟨_, rfl, ?_⟩; have n0_ := Aside0.mk (below_step (by repeat (first | (with_reducible first | exact HB.out | apply below_alloc | apply pw_below_drewN | apply below_drew1) | exact HB.out)) hb); clear HB; have HB := n0_; clear n0_; (try clear hb); (try clear hb2); (try clear hk); (try clear hi)) | ((with_reducible refine gate_callee (f := 13) rfl ?_); refine goesL_ (some 42) rfl rfl Tryd.func13 (by kernel_rfl) rfl #[.string a0] rfl (by (try simp only [List.map_toArray, List.map_cons, List.map_nil]); first | done | rfl | (simp only [List.length_drop, List.length_take]; rfl)) ?_; (with_reducible refine (lexer_Lex.calls a0 t272 t273 t274 _ (Tab.below HTAB.out (by repeat (first | (with_reducible first | exact HB.out | exact Below.refl _ _ | apply below_alloc | apply pw_below_drewN | apply below_drew1) | exact HB.out))) A41.out).mono ?_); rintro e w49 ⟨v275, rfl, ho0, hb⟩; refine ⟨_, rfl, ?_⟩; have n0_ := Aside0.mk (Kd.R_lower ho0 (below_size (by repeat (first | (with_reducible first | exact HB.out | apply below_alloc | apply pw_below_drewN | apply below_drew1) | exact HB.out)))); have n1_ := Aside0.mk (below_step (by repeat (first | (with_reducible first | exact HB.out | apply below_alloc | apply pw_below_drewN | apply below_drew1) | exact HB.out)) hb); clear HB; have HO276 := n0_; have HB := n1_; clear n0_ n1_; (try clear hb); (try clear hb2); (try clear hk); (try clear hi); (try clear ho0); obtain ⟨Ao50, co50, eo50⟩ := Kd.R_slice HO276.out; subst eo50))
                  go_ret
                  exact ⟨by first | rfl | (simp [errW_none, errW_some] <;> rfl) | (simp [*, errW_none, errW_some] <;> rfl), by repeat (first | (with_reducible first | exact HB.out | apply below_alloc | apply pw_below_drewN | apply below_drew1) | exact HB.out)⟩
              · rw [if_neg c42] at H
                have c42b0 : (t274 == 0) = false := beq_eq_false_iff_ne.mpr c42
                have c42b1 : (t274 != 0) = true := bne_iff_ne.mpr c42
                obtain rfl := Option.some.inj H
                go_wp2_with (first | ((with_reducible refine gate_callee (f := 17) rfl ?_); refine goesL_ (some 33) rfl rfl Tryd.func17 (by kernel_rfl) rfl #[.string a0] rfl (by (try simp only [List.map_toArray, List.map_cons, List.map_nil]); first | done | rfl | (simp only [List.length_drop, List.length_take]; rfl)) ?_; (with_reducible refine (lexer_Name.calls a0 true _ (Tab.below HTAB.out (by repeat (first | (with_reducible first | exact HB.out | exact Below.refl _ _ | apply below_alloc | apply pw_below_drewN | apply below_drew1) | exact HB.out))) A39.out).mono ?_); rintro e w51 ⟨rfl, hb⟩; refine ⟨_, rfl, ?_⟩; have n0_ := Aside0.mk (below_step (by repeat (first | (with_reducible first | exact HB.out | apply below_alloc | apply pw_below_drewN | apply below_drew1) | exact HB.out)) hb); clear HB; have HB := n0_; clear n0_; (try clear hb); (try clear hb2); (try clear hk); (try clear hi)) | ((with_reducible refine gate_callee (f := 13) rfl ?_); refine goesL_ (some 42) rfl rfl Tryd.func13 (by kernel_rfl) rfl #[.string a0] rfl (by (try simp only [List.map_toArray, List.map_cons, List.map_nil]); first | done | rfl | (simp only [List.length_drop, List.length_take]; rfl)) ?_; (with_reducible refine (lexer_Lex.calls a0 t272 t273 t274 _ (Tab.below HTAB.out (by repeat (first | (with_reducible first | exact HB.out | exact Below.refl _ _ | apply below_alloc | apply pw_below_drewN | apply below_drew1) | exact HB.out))) A41.out).mono ?_); rintro e w52 ⟨v275, rfl, ho0, hb⟩; refine ⟨_, rfl, ?_⟩; have n0_ := Aside0.mk (Kd.R_lower ho0 (below_size (by repeat (first | (with_reducible first | exact HB.out | apply below_alloc | apply pw_below_drewN | apply below_drew1) | exact HB.out)))); have n1_ := Aside0.mk (below_step (by repeat (first | (with_reducible first | exact HB.out | apply below_alloc | apply pw_below_drewN | apply below_drew1) | exact HB.out)) hb); clear HB; have HO276 := n0_; have HB := n1_; clear n0_ n1_; (try clear hb); (try clear hb2); (try clear hk); (try clear hi); (try clear ho0)))
                go_ret
                exact ⟨by first | rfl | (simp [errW_none, errW_some] <;> rfl) | (simp [*, errW_none, errW_some] <;> rfl), by repeat (first | (with_reducible first | exact HB.out | apply below_alloc | apply pw_below_drewN | apply below_drew1) | exact HB.out)⟩
            · replace c40 := Bool.eq_false_iff.mpr c40
              subst c40
              have H1 : ((lexer_Keyword.f a0).bind fun t278 => (if t278 = true then ((lexer_Lex.f a0).bind fun bt279 => (if bt279.2.2 = 0 then (if (bt279.1.length : Int) = 1 then (if 0 < (bt279.1.length : Int) then (some (((rd_T33 bt279.1 0).f0) == 1)) else (none)) else (some false)) else (some false))) else (some true))) = some r := by rw [if_neg (show ¬ (false = true) by decide)] at H; exact H
              clear H
              have H := H1
              clear H1
              replace H := Option.bind_eq_some_iff.mp H
              obtain ⟨t278, A530, H⟩ := H
              replace H : (if t278 = true then ((lexer_Lex.f a0).bind fun bt279 => (if bt279.2.2 = 0 then (if (bt279.1.length : Int) = 1 then (if 0 < (bt279.1.length : Int) then (some (((rd_T33 bt279.1 0).f0) == 1)) else (none)) else (some false)) else (some false))) else (some true)) = some r := H
              have A53 := Aside0.mk A530
              clear A530
              by_cases c54 : t278 = true
              · subst c54
                have H1 : ((lexer_Lex.f a0).bind fun bt279 => (if bt279.2.2 = 0 then (if (bt279.1.length : Int) = 1 then (if 0 < (bt279.1.length : Int) then (some (((rd_T33 bt279.1 0).f0) == 1)) else (none)) else (some false)) else (some false))) = some r := by rw [if_pos rfl] at H; exact H
                clear H
                have H := H1
                clear H1
                replace H := Option.bind_eq_some_iff.mp H
                obtain ⟨⟨t279, t280, t281⟩, A550, H⟩ := H
                replace H : (if t281 = 0 then (if (t279.length : Int) = 1 then (if 0 < (t279.length : Int) then (some (((rd_T33 t279 0).f0) == 1)) else (none)) else (some false)) else (some false)) = some r := H
                have A55 := Aside0.mk A550
                clear A550
                by_cases c56 : t281 = 0
                · rw [if_pos c56] at H
                  have c56b0 : (t281 == 0) = true := beq_iff_eq.mpr c56
                  have c56b1 : (t281 != 0) = false := bne_eq_false_iff_eq.mpr c56
                  clear c56
                  by_cases c57 : (t279.length : Int) = 1
                  · rw [if_pos c57] at H
                    have c57b0 : ((t279.length : Int) == 1) = true := beq_iff_eq.mpr c57
                    have c57b1 : ((t279.length : Int) != 1) = false := bne_eq_false_iff_eq.mpr c57
                    clear c57
                    by_cases c58 : 0 < (t279.length : Int)
                    · rw [if_pos c58] at H
                      have c58b0 : decide (0 < (t279.length : Int)) = true := decide_eq_true c58
                      have c58b1 : decide (0 < t279.length) = true := decide_eq_true (by omega)
                      clear c58
                      obtain rfl := Option.some.inj H
                      go_wp2_with (first | ((with_reducible refine gate_callee (f := 17) rfl ?_); refine goesL_ (some 33) rfl rfl Tryd.func17 (by kernel_rfl) rfl #[.string a0] rfl (by (try simp only [List.map_toArray, List.map_cons, List.map_nil]); first | done | rfl | (simp only [List.length_drop, List.length_take]; rfl)) ?_; (with_reducible refine (lexer_Name.calls a0 false _ (Tab.below HTAB.out (by repeat (first | (with_reducible first | exact HB.out | exact Below.refl _ _ | apply below_alloc | apply pw_below_drewN | apply below_drew1) | exact HB.out))) A39.out).mono ?_); rintro e w59 ⟨rfl, hb⟩; refine ⟨_, rfl, ?_⟩; have n0_ := Aside0.mk (below_step (by repeat (first | (with_reducible first | exact HB.out | apply below_alloc | apply pw_below_drewN | apply below_drew1) | exact HB.out)) hb); clear HB; have HB := n0_; clear n0_; (try clear hb); (try clear hb2); (try clear hk); (try clear hi)) | (go_at_call 19; (with_reducible refine (lexer_Keyword.calls a0 true _ (Tab.below HTAB.out (by repeat (first | (with_reducible first | exact HB.out | exact Below.refl _ _ | apply below_alloc | apply pw_below_drewN | apply below_drew1) | exact HB.out))) A53.out).mono ?_); rintro e w60 ⟨rfl, hb⟩; have n0_ := Aside0.mk (below_step (by repeat (first | (with_reducible first | exact HB.out | apply below_alloc | apply pw_below_drewN | apply below_drew1) | exact HB.out)) hb); clear HB; have HB := n0_; clear n0_; (try clear hb); (try clear hb2); (try clear hk); (try clear hi)) | ((with_reducible refine gate_callee (f := 13) rfl ?_); refine goesL_ (some 42) rfl rfl Tryd.func13 (by kernel_rfl) rfl #[.string a0] rfl (by (try simp only [List.map_toArray, List.map_cons, List.map_nil]); first | done | rfl | (simp only [List.length_drop, List.length_take]; rfl)) ?_; (with_reducible refine (lexer_Lex.calls a0 t279 t280 t281 _ (Tab.below HTAB.out (by repeat (first | (with_reducible first | exact HB.out | exact Below.refl _ _ | apply below_alloc | apply pw_below_drewN | apply below_drew1) | exact HB.out))) A55.out).mono ?_); rintro e w61 ⟨v282, rfl, ho0, hb⟩; refine ⟨_, rfl, ?_⟩; have n0_ := Aside0.mk (Kd.R_lower ho0 (below_size (by repeat (first | (with_reducible first | exact HB.out | apply below_alloc | apply pw_below_drewN | apply below_drew1) | exact HB.out)))); have n1_ := Aside0.mk (below_step (by repeat (first | (with_reducible first | exact HB.out | apply below_alloc | apply pw_below_drewN | apply below_drew1) | exact HB.out)) hb); clear HB; have HO283 := n0_; have HB := n1_; clear n0_ n1_; (try clear hb); (try clear hb2); (try clear hk); (try clear hi); (try clear ho0); obtain ⟨Ao62, co62, eo62⟩ := Kd.R_slice HO283.out; subst eo62; have p284 : 0 ≤ (0 : Int) := (by omega); have q284 : 0 < (t279.length : Int) := of_decide_eq_true (by first | (with_reducible assumption) | assumption); obtain ⟨ad284, e284, hx284_0, hx284_1, hx284_2⟩ := at_T33 (Kd.R_reads' HO283.out).2.2 0 p284 q284; cases e284; have qi284 : (0 < t279.length) = True := eq_true (by omega); (try rw [show ((0 : Int)).toNat = 0 from rfl] at hx284_0); (try rw [show 0 * 3 = 0 from rfl] at hx284_0); (try rw [Addr.add_zero'] at hx284_0); (try rw [show ((0 : Int)).toNat = 0 from rfl] at hx284_1); (try rw [show 0 * 3 = 0 from rfl] at hx284_1); (try rw [Addr.add_zero'] at hx284_1); (try rw [show ((0 : Int)).toNat = 0 from rfl] at hx284_2); (try rw [show 0 * 3 = 0 from rfl] at hx284_2); (try rw [Addr.add_zero'] at hx284_2); replace p284 := eq_true p284; replace q284 := eq_true q284))
                      go_ret
                      exact ⟨by first | rfl | (simp [errW_none, errW_some] <;> rfl) | (simp [*, errW_none, errW_some] <;> rfl), by repeat (first | (with_reducible first | exact HB.out | apply below_alloc | apply pw_below_drewN | apply below_drew1) | exact HB.out)⟩
                    · rw [if_neg c58] at H
                      exact absurd H (by simp)
                  · rw [if_neg c57] at H
                    have c57b0 : ((t279.length : Int) == 1) = false := beq_eq_false_iff_ne.mpr c57
                    have c57b1 : ((t279.length : Int) != 1) = true := bne_iff_ne.mpr c57
                    obtain rfl := Option.some.inj H
                    go_wp2_with (first | ((with_reducible refine gate_callee (f := 17) rfl ?_); refine goesL_ (some 33) rfl rfl Tryd.func17 (by kernel_rfl) rfl #[.string a0] rfl (by (try simp only [List.map_toArray, List.map_cons, List.map_nil]); first | done | rfl | (simp only [List.length_drop, List.length_take]; rfl)) ?_; (with_reducible refine (lexer_Name.calls a0 false _ (Tab.below HTAB.out (by repeat (first | (with_reducible first | exact HB.out | exact Below.refl _ _ | apply below_alloc | apply pw_below_drewN | apply below_drew1) | exact HB.out))) A39.out).mono ?_); rintro e w63 ⟨rfl, hb⟩; refine ⟨_, rfl, ?_⟩; have n0_ := Aside0.mk (below_step (by repeat (first | (with_reducible first | exact HB.out | apply below_alloc | apply pw_below_drewN | apply below_drew1) | exact HB.out)) hb); clear HB; have HB := n0_; clear n0_; (try clear hb); (try clear hb2); (try clear hk); (try clear hi)) | (go_at_call 19; (with_reducible refine (lexer_Keyword.calls a0 true _ (Tab.below HTAB.out (by repeat (first | (with_reducible first | exact HB.out | exact Below.refl _ _ | apply below_alloc | apply pw_below_drewN | apply below_drew1) | exact HB.out))) A53.out).mono ?_); rintro e w64 ⟨rfl, hb⟩; have n0_ := Aside0.mk (below_step (by repeat (first | (with_reducible first | exact HB.out | apply below_alloc | apply pw_below_drewN | apply below_drew1) | exact HB.out)) hb); clear HB; have HB := n0_; clear n0_; (try clear hb); (try clear hb2); (try clear hk); (try clear hi)) | ((with_reducible refine gate_callee (f := 13) rfl ?_); refine goesL_ (some 42) rfl rfl Tryd.func13 (by kernel_rfl) rfl #[.string a0] rfl (by (try simp only [List.map_toArray, List.map_cons, List.map_nil]); first | done | rfl | (simp only [List.length_drop, List.length_take]; rfl)) ?_; (with_reducible refine (lexer_Lex.calls a0 t279 t280 t281 _ (Tab.below HTAB.out (by repeat (first | (with_reducible first | exact HB.out | exact Below.refl _ _ | apply below_alloc | apply pw_below_drewN | apply below_drew1) | exact HB.out))) A55.out).mono ?_); rintro e w65 ⟨v282, rfl, ho0, hb⟩; refine ⟨_, rfl, ?_⟩; have n0_ := Aside0.mk (Kd.R_lower ho0 (below_size (by repeat (first | (with_reducible first | exact HB.out | apply below_alloc | apply pw_below_drewN | apply below_drew1) | exact HB.out)))); have n1_ := Aside0.mk (below_step (by repeat (first | (with_reducible first | exact HB.out | apply below_alloc | apply pw_below_drewN | apply below_drew1) | exact HB.out)) hb); clear HB; have HO283 := n0_; have HB := n1_; clear n0_ n1_; (try clear hb); (try clear hb2); (try clear hk); (try clear hi); (try clear ho0); obtain ⟨Ao66, co66, eo66⟩ := Kd.R_slice HO283.out; subst eo66))
                    go_ret
                    exact ⟨by first | rfl | (simp [errW_none, errW_some] <;> rfl) | (simp [*, errW_none, errW_some] <;> rfl), by repeat (first | (with_reducible first | exact HB.out | apply below_alloc | apply pw_below_drewN | apply below_drew1) | exact HB.out)⟩
                · rw [if_neg c56] at H
                  have c56b0 : (t281 == 0) = false := beq_eq_false_iff_ne.mpr c56
                  have c56b1 : (t281 != 0) = true := bne_iff_ne.mpr c56
                  obtain rfl := Option.some.inj H
                  go_wp2_with (first | ((with_reducible refine gate_callee (f := 17) rfl ?_); refine goesL_ (some 33) rfl rfl Tryd.func17 (by kernel_rfl) rfl #[.string a0] rfl (by (try simp only [List.map_toArray, List.map_cons, List.map_nil]); first | done | rfl | (simp only [List.length_drop, List.length_take]; rfl)) ?_; (with_reducible refine (lexer_Name.calls a0 false _ (Tab.below HTAB.out (by repeat (first | (with_reducible first | exact HB.out | exact Below.refl _ _ | apply below_alloc | apply pw_below_drewN | apply below_drew1) | exact HB.out))) A39.out).mono ?_); rintro e w67 ⟨rfl, hb⟩; refine ⟨_, rfl, ?_⟩; have n0_ := Aside0.mk (below_step (by repeat (first | (with_reducible first | exact HB.out | apply below_alloc | apply pw_below_drewN | apply below_drew1) | exact HB.out)) hb); clear HB; have HB := n0_; clear n0_; (try clear hb); (try clear hb2); (try clear hk); (try clear hi)) | (go_at_call 19; (with_reducible refine (lexer_Keyword.calls a0 true _ (Tab.below HTAB.out (by repeat (first | (with_reducible first | exact HB.out | exact Below.refl _ _ | apply below_alloc | apply pw_below_drewN | apply below_drew1) | exact HB.out))) A53.out).mono ?_); rintro e w68 ⟨rfl, hb⟩; have n0_ := Aside0.mk (below_step (by repeat (first | (with_reducible first | exact HB.out | apply below_alloc | apply pw_below_drewN | apply below_drew1) | exact HB.out)) hb); clear HB; have HB := n0_; clear n0_; (try clear hb); (try clear hb2); (try clear hk); (try clear hi)) | ((with_reducible refine gate_callee (f := 13) rfl ?_); refine goesL_ (some 42) rfl rfl Tryd.func13 (by kernel_rfl) rfl #[.string a0] rfl (by (try simp only [List.map_toArray, List.map_cons, List.map_nil]); first | done | rfl | (simp only [List.length_drop, List.length_take]; rfl)) ?_; (with_reducible refine (lexer_Lex.calls a0 t279 t280 t281 _ (Tab.below HTAB.out (by repeat (first | (with_reducible first | exact HB.out | exact Below.refl _ _ | apply below_alloc | apply pw_below_drewN | apply below_drew1) | exact HB.out))) A55.out).mono ?_); rintro e w69 ⟨v282, rfl, ho0, hb⟩; refine ⟨_, rfl, ?_⟩; have n0_ := Aside0.mk (Kd.R_lower ho0 (below_size (by repeat (first | (with_reducible first | exact HB.out | apply below_alloc | apply pw_below_drewN | apply below_drew1) | exact HB.out)))); have n1_ := Aside0.mk (below_step (by repeat (first | (with_reducible first | exact HB.out | apply below_alloc | apply pw_below_drewN | apply below_drew1) | exact HB.out)) hb); clear HB; have HO283 := n0_; have HB := n1_; clear n0_ n1_; (try clear hb); (try clear hb2); (try clear hk); (try clear hi); (try clear ho0)))
                  go_ret
                  exact ⟨by first | rfl | (simp [errW_none, errW_some] <;> rfl) | (simp [*, errW_none, errW_some] <;> rfl), by repeat (first | (with_reducible first | exact HB.out | apply below_alloc | apply pw_below_drewN | apply below_drew1) | exact HB.out)⟩
              · replace c54 := Bool.eq_false_iff.mpr c54
                subst c54
                have H1 : (some true) = some r := by rw [if_neg (show ¬ (false = true) by decide)] at H; exact H
                clear H
                have H := H1
                clear H1
                obtain rfl := Option.some.inj H
                go_wp2_with (first | ((with_reducible refine gate_callee (f := 17) rfl ?_); refine goesL_ (some 33) rfl rfl Tryd.func17 (by kernel_rfl) rfl #[.string a0] rfl (by (try simp only [List.map_toArray, List.map_cons, List.map_nil]); first | done | rfl | (simp only [List.length_drop, List.length_take]; rfl)) ?_; (with_reducible refine (lexer_Name.calls a0 false _ (Tab.below HTAB.out (by repeat (first | (with_reducible first | exact HB.out | exact Below.refl _ _ | apply below_alloc | apply pw_below_drewN | apply below_drew1) | exact HB.out))) A39.out).mono ?_); rintro e w70 ⟨rfl, hb⟩; refine ⟨_, rfl, ?_⟩; have n0_ := Aside0.mk (below_step (by repeat (first | (with_reducible first | exact HB.out | apply below_alloc | apply pw_below_drewN | apply below_drew1) | exact HB.out)) hb); clear HB; have HB := n0_; clear n0_; (try clear hb); (try clear hb2); (try clear hk); (try clear hi)) | (go_at_call 19; (with_reducible refine (lexer_Keyword.calls a0 false _ (Tab.below HTAB.out (by repeat (first | (with_reducible first | exact HB.out | exact Below.refl _ _ | apply below_alloc | apply pw_below_drewN | apply below_drew1) | exact HB.out))) A53.out).mono ?_); rintro e w71 ⟨rfl, hb⟩; have n0_ := Aside0.mk (below_step (by repeat (first | (with_reducible first | exact HB.out | apply below_alloc | apply pw_below_drewN | apply below_drew1) | exact HB.out)) hb); clear HB; have HB := n0_; clear n0_; (try clear hb); (try clear hb2); (try clear hk); (try clear hi)))
                go_ret
                exact ⟨by first | rfl | (simp [errW_none, errW_some] <;> rfl) | (simp [*, errW_none, errW_some] <;> rfl), by repeat (first | (with_reducible first | exact HB.out | apply below_alloc | apply pw_below_drewN | apply below_drew1) | exact HB.out)⟩
  · replace c3 := Bool.eq_false_iff.mpr c3
    subst c3
    have H1 : (some false) = some r := by rw [if_neg (show ¬ (false = true) by decide)] at H; exact H
    clear H
    have H := H1
    clear H1
    obtain rfl := Option.some.inj H
    go_enter Tryd.func8, Tryd.ntmps8
    go_wp2_with (first | ((with_reducible refine gate_callee (f := 12) rfl ?_); refine goesL_ (some 6) rfl rfl Tryd.func12 (by kernel_rfl) rfl #[] rfl (by (try simp only [List.map_toArray, List.map_cons, List.map_nil]); first | done | rfl | (simp only [List.length_drop, List.length_take]; rfl)) ?_; (with_reducible refine (backsteplaw02_awake.calls  false _ (Tab.below HTAB.out (by repeat (first | (with_reducible first | exact HB.out | exact Below.refl _ _ | apply below_alloc | apply pw_below_drewN | apply below_drew1) | exact HB.out))) A2.out).mono ?_); rintro e w72 ⟨rfl, hb⟩; refine ⟨_, rfl, ?_⟩; have n0_ := Aside0.mk (below_step (by repeat (first | (with_reducible first | exact HB.out | apply below_alloc | apply pw_below_drewN | apply below_drew1) | exact HB.out)) hb); clear HB; have HB := n0_; clear n0_; (try clear hb); (try clear hb2); (try clear hk); (try clear hi)))
    go_ret
    exact ⟨by first | rfl | (simp [errW_none, errW_some] <;> rfl) | (simp [*, errW_none, errW_some] <;> rfl), by repeat (first | (with_reducible first | exact HB.out | apply below_alloc | apply pw_below_drewN | apply below_drew1) | exact HB.out)⟩

/-- THE ONE PURE STATEMENT of backsteplaw02_LexerNames: yours. -/
def backsteplaw02_LexerNames.Pure : Prop := ∀ (a0 : ByteArray), a0.size ≤ 140737488351232 → ∃ k, backsteplaw02_LexerNames.f k a0 = some true
theorem backsteplaw02_LexerNames.walk (P : backsteplaw02_LexerNames.Pure) (a0 : ByteArray) (w : World) (htab : Tab w) (w0 : a0.size ≤ 140737488351232) :
    Calls Tryd.prog 8 #[.string a0] w fun e w' => e = .returned (.bool true) ∧ Below w.heap.size w w' := by
  obtain ⟨k, h⟩ := P a0 w0
  refine (backsteplaw02_LexerNames.calls k a0 true w htab h).mono ?_
  rintro e w' ⟨rfl, hd⟩
  exact ⟨rfl, hd⟩

end Go.Proofs.YtapkfblkghoknaaDoor.PX
