-- Written by wip/tools/weave.py out of a printing program's text: the contracts of Lex, Name, Keyword and Join, and the table's premise, are ours.
import Derived.Test.YtapkfblkghoknaaDoorPX0
import Derived.Test.YtapkfblkghoknaaDoorPX1
import Derived.Test.YtapkfblkghoknaaDoorPX3
import Derived.Test.YtapkfblkghoknaaDoorPX15
import Derived.Test.YtapkfblkghoknaaDoorPX22
namespace Go.Proofs.YtapkfblkghoknaaDoor.PX
open Go.RowKit Go.Proofs.YtapkfblkghoknaaDoorW.PrintWords Go.Proofs.YtapkfblkghoknaaDoorW.PrintLast Go.Proofs.YtapkfblkghoknaaDoorW.PrintMore
attribute [local go_sem] max2_int min2_int max_two min_two max_three min_three max_four min_four   -- for this text's walks alone
set_option linter.unusedVariables false
set_option linter.unusedSimpArgs false

attribute [local go_sem high] eqA33
/-! ### backsteplaw02_LexerSolid: function 11 -/
mutual
def backsteplaw02_LexerSolid.l0 : Nat → List (S33) → ByteArray → List (S33) → Int → Option (Bool)
  | 0, _, _, _, _ => none
  | k + 1, x0, x3, x4, x5 => if x5 < (x0.length : Int) then (if 0 ≤ x5 then (if (((rd_T33 x0 x5).f1).size : Int) > 40 then (some true) else (if x3.size + ((rd_T33 x0 x5).f1).size ≤ 9223372036854775807 then (if ((rd_T33 x0 x5).f0) = 4 then (backsteplaw02_LexerSolid.l0 k x0 (x3 ++ ((rd_T33 x0 x5).f1)) x4 (wrap64 (x5 + 1))) else (if ((rd_T33 x0 x5).f0) = 5 then (backsteplaw02_LexerSolid.l0 k x0 (x3 ++ ((rd_T33 x0 x5).f1)) x4 (wrap64 (x5 + 1))) else (if x4.length < 4398046511104 then (backsteplaw02_LexerSolid.l0 k x0 (x3 ++ ((rd_T33 x0 x5).f1)) (x4 ++ [(⟨(rd_T33 x0 x5).f0, (rd_T33 x0 x5).f1, (rd_T33 x0 x5).f2⟩ : S33)]) (wrap64 (x5 + 1))) else (none)))) else (none))) else (none)) else ((lexer_Solid.f k x0).bind fun t326 => (if (t326.length : Int) = (x4.length : Int) then ((lexer_Join.f x0).bind fun t329 => (backsteplaw02_LexerSolid.j1 k x0 x3 x4 t326 (t329.toList != x3.toList))) else (backsteplaw02_LexerSolid.j1 k x0 x3 x4 t326 true)))
def backsteplaw02_LexerSolid.j1 : Nat → List (S33) → ByteArray → List (S33) → List (S33) → Bool → Option (Bool)
  | 0, _, _, _, _, _ => none
  | k + 1, x0, x3, x4, x6, x66 => if x66 = true then (some false) else (backsteplaw02_LexerSolid.l1 k x0 x3 x4 x6 0)
def backsteplaw02_LexerSolid.l1 : Nat → List (S33) → ByteArray → List (S33) → List (S33) → Int → Option (Bool)
  | 0, _, _, _, _, _ => none
  | k + 1, x0, x3, x4, x6, x7 => if x7 < (x6.length : Int) then (if 0 ≤ x7 then (if x7 < (x4.length : Int) then (if (!(((rd_T33 x6 x7).f0) == ((rd_T33 x4 x7).f0)) || (!((((rd_T33 x6 x7).f1).toList) == (((rd_T33 x4 x7).f1).toList)) || (!(((rd_T33 x6 x7).f2) == ((rd_T33 x4 x7).f2))))) = true then (some false) else (backsteplaw02_LexerSolid.l1 k x0 x3 x4 (x6.set (x7 : Int).toNat (⟨(rd_T33 x6 x7).f0, (⟨#[63]⟩ : ByteArray), (rd_T33 x6 x7).f2⟩ : S33)) (wrap64 (x7 + 1)))) else (none)) else (none)) else ((lexer_Join.f x0).bind fun t333 => (some (t333.toList == x3.toList)))
end
def backsteplaw02_LexerSolid.f (k : Nat) (l0 : List (S33)) : Option (Bool) := (backsteplaw02_awake.f).bind fun t317 => (if t317 = true then (if (l0.length : Int) > 60 then (some true) else (backsteplaw02_LexerSolid.l0 k l0 (⟨#[]⟩ : ByteArray) ([] : List (S33)) 0)) else (some false))
theorem backsteplaw02_LexerSolid.mono_l : ∀ k, (∀ y0 y1 y2 y3, LeO (backsteplaw02_LexerSolid.l0 k y0 y1 y2 y3) (backsteplaw02_LexerSolid.l0 (k + 1) y0 y1 y2 y3)) ∧ (∀ y0 y1 y2 y3 y4, LeO (backsteplaw02_LexerSolid.j1 k y0 y1 y2 y3 y4) (backsteplaw02_LexerSolid.j1 (k + 1) y0 y1 y2 y3 y4)) ∧ (∀ y0 y1 y2 y3 y4, LeO (backsteplaw02_LexerSolid.l1 k y0 y1 y2 y3 y4) (backsteplaw02_LexerSolid.l1 (k + 1) y0 y1 y2 y3 y4))
  | 0 => ⟨fun _ _ _ _ r h => by simp [backsteplaw02_LexerSolid.l0] at h, fun _ _ _ _ _ r h => by simp [backsteplaw02_LexerSolid.j1] at h, fun _ _ _ _ _ r h => by simp [backsteplaw02_LexerSolid.l1] at h⟩
  | k + 1 => by
    obtain ⟨ih0, ih1, ih2⟩ := backsteplaw02_LexerSolid.mono_l k
    refine ⟨?_, ?_, ?_⟩
    · intro y0 y1 y2 y3
      unfold backsteplaw02_LexerSolid.l0
      repeat' first
      | (with_reducible exact ih0 _ _ _ _)
      | (with_reducible exact ih1 _ _ _ _ _)
      | (with_reducible exact ih2 _ _ _ _ _)
      | (with_reducible exact lexer_Solid.mono _ _)
      | (with_reducible exact LeO.refl _)
      | (with_reducible exact LeO.none _)
      | (with_reducible refine LeO.ite ?_ ?_)
      | (with_reducible refine LeO.bind ?_ (fun _ => ?_))
      | exact ih0 _ _ _ _
      | exact ih1 _ _ _ _ _
      | exact ih2 _ _ _ _ _
      | exact lexer_Solid.mono _ _
      | exact LeO.none _
      | refine LeO.ite ?_ ?_
      | refine LeO.bind ?_ (fun _ => ?_)
    · intro y0 y1 y2 y3 y4
      unfold backsteplaw02_LexerSolid.j1
      repeat' first
      | (with_reducible exact ih0 _ _ _ _)
      | (with_reducible exact ih1 _ _ _ _ _)
      | (with_reducible exact ih2 _ _ _ _ _)
      | (with_reducible exact lexer_Solid.mono _ _)
      | (with_reducible exact LeO.refl _)
      | (with_reducible exact LeO.none _)
      | (with_reducible refine LeO.ite ?_ ?_)
      | (with_reducible refine LeO.bind ?_ (fun _ => ?_))
      | exact ih0 _ _ _ _
      | exact ih1 _ _ _ _ _
      | exact ih2 _ _ _ _ _
      | exact lexer_Solid.mono _ _
      | exact LeO.none _
      | refine LeO.ite ?_ ?_
      | refine LeO.bind ?_ (fun _ => ?_)
    · intro y0 y1 y2 y3 y4
      unfold backsteplaw02_LexerSolid.l1
      repeat' first
      | (with_reducible exact ih0 _ _ _ _)
      | (with_reducible exact ih1 _ _ _ _ _)
      | (with_reducible exact ih2 _ _ _ _ _)
      | (with_reducible exact lexer_Solid.mono _ _)
      | (with_reducible exact LeO.refl _)
      | (with_reducible exact LeO.none _)
      | (with_reducible refine LeO.ite ?_ ?_)
      | (with_reducible refine LeO.bind ?_ (fun _ => ?_))
      | exact ih0 _ _ _ _
      | exact ih1 _ _ _ _ _
      | exact ih2 _ _ _ _ _
      | exact lexer_Solid.mono _ _
      | exact LeO.none _
      | refine LeO.ite ?_ ?_
      | refine LeO.bind ?_ (fun _ => ?_)
theorem backsteplaw02_LexerSolid.mono : ∀ a0 k, LeO (backsteplaw02_LexerSolid.f k a0) (backsteplaw02_LexerSolid.f (k + 1) a0) := by
  intro a0 k
  obtain ⟨ih0, ih1, ih2⟩ := backsteplaw02_LexerSolid.mono_l k
  unfold backsteplaw02_LexerSolid.f
  repeat' first
      | (with_reducible exact ih0 _ _ _ _)
      | (with_reducible exact ih1 _ _ _ _ _)
      | (with_reducible exact ih2 _ _ _ _ _)
      | (with_reducible exact lexer_Solid.mono _ _)
      | (with_reducible exact LeO.refl _)
      | (with_reducible exact LeO.none _)
      | (with_reducible refine LeO.ite ?_ ?_)
      | (with_reducible refine LeO.bind ?_ (fun _ => ?_))
      | exact ih0 _ _ _ _
      | exact ih1 _ _ _ _ _
      | exact ih2 _ _ _ _ _
      | exact lexer_Solid.mono _ _
      | exact LeO.none _
      | refine LeO.ite ?_ ?_
      | refine LeO.bind ?_ (fun _ => ?_)
set_option maxHeartbeats 8000000 in
set_option maxRecDepth 100000 in
theorem backsteplaw02_LexerSolid.calls (k : Nat) (A0 : Option Addr) (c0 : Nat) (l0 : List (S33)) (r : Bool) (w : World) (htab : Tab w) (hr0 : Kd.C k33 w A0 l0.length l0) (hc0 : l0.length ≤ c0) (h : backsteplaw02_LexerSolid.f k l0 = some r) :
    Calls Tryd.prog 11 #[.slice A0 l0.length c0] w fun e w' => e = .returned (.bool r) ∧ Below w.heap.size w w' := by
  have HTAB := Aside0.mk htab
  clear htab
  have hu33 := Tryd.underlying33
  have HR0 := Aside0.mk hr0
  have HC0 := Aside0.mk hc0
  clear hr0 hc0
  have HB := Aside0.mk (Below.refl w.heap.size w)
  have H : ((backsteplaw02_awake.f).bind fun t317 => (if t317 = true then (if (l0.length : Int) > 60 then (some true) else (backsteplaw02_LexerSolid.l0 k l0 (⟨#[]⟩ : ByteArray) ([] : List (S33)) 0)) else (some false))) = some r := h
  clear h
  replace H := Option.bind_eq_some_iff.mp H
  obtain ⟨t317, A20, H⟩ := H
  replace H : (if t317 = true then (if (l0.length : Int) > 60 then (some true) else (backsteplaw02_LexerSolid.l0 k l0 (⟨#[]⟩ : ByteArray) ([] : List (S33)) 0)) else (some false)) = some r := H
  have A2 := Aside0.mk A20
  clear A20
  by_cases c3 : t317 = true
  · subst c3
    have H1 : (if (l0.length : Int) > 60 then (some true) else (backsteplaw02_LexerSolid.l0 k l0 (⟨#[]⟩ : ByteArray) ([] : List (S33)) 0)) = some r := by rw [if_pos rfl] at H; exact H
    clear H
    have H := H1
    clear H1
    by_cases c4 : (l0.length : Int) > 60
    · rw [if_pos c4] at H
      have c4b0 : decide (60 < (l0.length : Int)) = true := decide_eq_true c4
      have c4b1 : decide (60 < l0.length) = true := decide_eq_true (by omega)
      clear c4
      obtain rfl := Option.some.inj H
      go_enter Tryd.func11, Tryd.ntmps11
      go_wp2_with (first | (go_at_call 12; (with_reducible refine (backsteplaw02_awake.calls  true _ (Tab.below HTAB.out (by repeat (first | (with_reducible first | exact HB.out | exact Below.refl _ _ | apply below_alloc | apply pw_below_drewN | apply below_drew1) | exact HB.out))) A2.out).mono ?_); rintro e w5 ⟨rfl, hb⟩; have n0_ := Aside0.mk (below_step (by repeat (first | (with_reducible first | exact HB.out | apply below_alloc | apply pw_below_drewN | apply below_drew1) | exact HB.out)) hb); clear HB; have HB := n0_; clear n0_; (try clear hb); (try clear hb2); (try clear hk); (try clear hi)))
      repeat (go_quiet (first | (go_at_call 12; (with_reducible refine (backsteplaw02_awake.calls  true _ (Tab.below HTAB.out (by repeat (first | (with_reducible first | exact HB.out | exact Below.refl _ _ | apply below_alloc | apply pw_below_drewN | apply below_drew1) | exact HB.out))) A2.out).mono ?_); rintro e w5 ⟨rfl, hb⟩; have n0_ := Aside0.mk (below_step (by repeat (first | (with_reducible first | exact HB.out | apply below_alloc | apply pw_below_drewN | apply below_drew1) | exact HB.out)) hb); clear HB; have HB := n0_; clear n0_; (try clear hb); (try clear hb2); (try clear hk); (try clear hi))); try go_wp2_with (first | (go_at_call 12; (with_reducible refine (backsteplaw02_awake.calls  true _ (Tab.below HTAB.out (by repeat (first | (with_reducible first | exact HB.out | exact Below.refl _ _ | apply below_alloc | apply pw_below_drewN | apply below_drew1) | exact HB.out))) A2.out).mono ?_); rintro e w5 ⟨rfl, hb⟩; have n0_ := Aside0.mk (below_step (by repeat (first | (with_reducible first | exact HB.out | apply below_alloc | apply pw_below_drewN | apply below_drew1) | exact HB.out)) hb); clear HB; have HB := n0_; clear n0_; (try clear hb); (try clear hb2); (try clear hk); (try clear hi))))
      go_ret
      exact ⟨by first | rfl | (simp [errW_none, errW_some] <;> rfl) | (simp [*, errW_none, errW_some] <;> rfl), by repeat (first | (with_reducible first | exact HB.out | apply below_alloc | apply pw_below_drewN | apply below_drew1) | exact HB.out)⟩
    · rw [if_neg c4] at H
      have c4b0 : decide (60 < (l0.length : Int)) = false := decide_eq_false c4
      have c4b1 : decide (60 < l0.length) = false := decide_eq_false (by omega)
      clear c4
      have H' := Aside0.mk H
      clear H
      go_enter Tryd.func11, Tryd.ntmps11
      go_wp2_with (first | (go_at_call 12; (with_reducible refine (backsteplaw02_awake.calls  true _ (Tab.below HTAB.out (by repeat (first | (with_reducible first | exact HB.out | exact Below.refl _ _ | apply below_alloc | apply pw_below_drewN | apply below_drew1) | exact HB.out))) A2.out).mono ?_); rintro e w6 ⟨rfl, hb⟩; have n0_ := Aside0.mk (below_step (by repeat (first | (with_reducible first | exact HB.out | apply below_alloc | apply pw_below_drewN | apply below_drew1) | exact HB.out)) hb); clear HB; have HB := n0_; clear n0_; (try clear hb); (try clear hb2); (try clear hk); (try clear hi)))
      repeat (go_quiet (first | (go_at_call 12; (with_reducible refine (backsteplaw02_awake.calls  true _ (Tab.below HTAB.out (by repeat (first | (with_reducible first | exact HB.out | exact Below.refl _ _ | apply below_alloc | apply pw_below_drewN | apply below_drew1) | exact HB.out))) A2.out).mono ?_); rintro e w6 ⟨rfl, hb⟩; have n0_ := Aside0.mk (below_step (by repeat (first | (with_reducible first | exact HB.out | apply below_alloc | apply pw_below_drewN | apply below_drew1) | exact HB.out)) hb); clear HB; have HB := n0_; clear n0_; (try clear hb); (try clear hb2); (try clear hk); (try clear hi))); try go_wp2_with (first | (go_at_call 12; (with_reducible refine (backsteplaw02_awake.calls  true _ (Tab.below HTAB.out (by repeat (first | (with_reducible first | exact HB.out | exact Below.refl _ _ | apply below_alloc | apply pw_below_drewN | apply below_drew1) | exact HB.out))) A2.out).mono ?_); rintro e w6 ⟨rfl, hb⟩; have n0_ := Aside0.mk (below_step (by repeat (first | (with_reducible first | exact HB.out | apply below_alloc | apply pw_below_drewN | apply below_drew1) | exact HB.out)) hb); clear HB; have HB := n0_; clear n0_; (try clear hb); (try clear hb2); (try clear hk); (try clear hi))))
      go_loopg [3, 4, 5] k (fun kq v3 v4 v5 w' => ∃ (x3_1 : ByteArray) (x4_1 : List (S33)) (x5_1 : Int), v3 = .string x3_1 ∧ v5 = .int .i64 x5_1 ∧ Aside0 (backsteplaw02_LexerSolid.l0 kq l0 x3_1 x4_1 x5_1 = some r) ∧ Aside0 (kq ≤ k) ∧ Aside0 (Kd.R k33 33 w' w.heap.size (fun _ => True) v4 x4_1) ∧ Aside0 (Below w.heap.size w w'))
      case atStart => exact ⟨((⟨#[]⟩ : ByteArray)), (([] : List (S33))), (0), (by first | rfl | (simp; done) | (simp [*]; done)), (by first | rfl | (simp; done) | (simp [*]; done)), H', ⟨Nat.le_refl _⟩, ⟨by first | exact Kd.R_nil _ _ _ _ _ | exact Kd.N_nil _ _ _ _ _ | exact Kd.V_nil _ _ _ _ _ | exact Kd.Q_nil _ _ _ _ _ | exact Kd.S_nil _ _ _ _ _⟩, ⟨by repeat (first | (with_reducible first | exact HB.out | apply below_alloc | apply pw_below_drewN | apply below_drew1) | exact HB.out)⟩⟩
      case round =>
        clear H'
        try clear c1
        try clear p2
        try clear c3
        try clear c4
        try clear c4b0
        try clear c4b1
        obtain ⟨x3_1, x4_1, x5_1, rfl, rfl, HA, HK1, HO_4, HB⟩ := hrel
        cases gk with
        | zero => exact absurd HA.out (by simp [backsteplaw02_LexerSolid.l0])
        | succ k1 =>
          have H := HA.out
          clear HA
          simp only [backsteplaw02_LexerSolid.l0] at H
          by_cases c7 : x5_1 < (l0.length : Int)
          · rw [if_pos c7] at H
            have c7b0 : decide (x5_1 < (l0.length : Int)) = true := decide_eq_true c7
            clear c7
            by_cases c8 : 0 ≤ x5_1
            · rw [if_pos c8] at H
              have c8b0 : decide (0 ≤ x5_1) = true := decide_eq_true c8
              clear c8
              by_cases c9 : (((rd_T33 l0 x5_1).f1).size : Int) > 40
              · rw [if_pos c9] at H
                have c9b0 : decide (40 < (((rd_T33 l0 x5_1).f1).size : Int)) = true := decide_eq_true c9
                have c9b1 : decide (40 < ((rd_T33 l0 x5_1).f1).size) = true := decide_eq_true (by omega)
                clear c9
                obtain rfl := Option.some.inj H
                have p318 : 0 ≤ (x5_1 : Int) := of_decide_eq_true (by first | (with_reducible assumption) | assumption)
                have q318 : x5_1 < (l0.length : Int) := of_decide_eq_true (by first | (with_reducible assumption) | assumption)
                obtain ⟨ad318, e318, hx318_0, hx318_1, hx318_2⟩ := at_T33 HR0.out x5_1 p318 q318
                cases e318
                replace hx318_0 := (HB.out.cell (World.block_lt_of_cell? w _ hx318_0)).trans hx318_0
                replace hx318_1 := (HB.out.cell (World.block_lt_of_cell? w _ hx318_1)).trans hx318_1
                replace hx318_2 := (HB.out.cell (World.block_lt_of_cell? w _ hx318_2)).trans hx318_2
                replace p318 := eq_true p318
                replace q318 := eq_true q318
                go_wp2
                repeat (go_quiet (fail); try go_wp2)
                go_ret
                exact ⟨by first | rfl | (simp [errW_none, errW_some] <;> rfl) | (simp [*, errW_none, errW_some] <;> rfl), by repeat (first | (with_reducible first | exact HB.out | apply below_alloc | apply pw_below_drewN | apply below_drew1) | exact HB.out)⟩
              · rw [if_neg c9] at H
                have c9b0 : decide (40 < (((rd_T33 l0 x5_1).f1).size : Int)) = false := decide_eq_false c9
                have c9b1 : decide (40 < ((rd_T33 l0 x5_1).f1).size) = false := decide_eq_false (by omega)
                clear c9
                by_cases c10 : x3_1.size + ((rd_T33 l0 x5_1).f1).size ≤ 9223372036854775807
                · rw [if_pos c10] at H
                  have c10b0 := eq_true c10
                  have c10b1 : decide (x3_1.size + ((rd_T33 l0 x5_1).f1).size ≤ 9223372036854775807) = true := decide_eq_true c10
                  try have c10b2 : (9223372036854775807 < x3_1.size + ((rd_T33 l0 x5_1).f1).size) = False := eq_false (Nat.not_lt.2 c10)
                  by_cases c11 : ((rd_T33 l0 x5_1).f0) = 4
                  · rw [if_pos c11] at H
                    have c11b0 : (((rd_T33 l0 x5_1).f0) == 4) = true := beq_iff_eq.mpr c11
                    have c11b1 : (((rd_T33 l0 x5_1).f0) != 4) = false := bne_eq_false_iff_eq.mpr c11
                    clear c11
                    have H' := Aside0.mk H
                    clear H
                    have p318 : 0 ≤ (x5_1 : Int) := of_decide_eq_true (by first | (with_reducible assumption) | assumption)
                    have q318 : x5_1 < (l0.length : Int) := of_decide_eq_true (by first | (with_reducible assumption) | assumption)
                    obtain ⟨ad318, e318, hx318_0, hx318_1, hx318_2⟩ := at_T33 HR0.out x5_1 p318 q318
                    cases e318
                    replace hx318_0 := (HB.out.cell (World.block_lt_of_cell? w _ hx318_0)).trans hx318_0
                    replace hx318_1 := (HB.out.cell (World.block_lt_of_cell? w _ hx318_1)).trans hx318_1
                    replace hx318_2 := (HB.out.cell (World.block_lt_of_cell? w _ hx318_2)).trans hx318_2
                    replace p318 := eq_true p318
                    replace q318 := eq_true q318
                    have p319 : 0 ≤ (x5_1 : Int) := of_decide_eq_true (by first | (with_reducible assumption) | assumption)
                    have q319 : x5_1 < (l0.length : Int) := of_decide_eq_true (by first | (with_reducible assumption) | assumption)
                    obtain ⟨ad319, e319, hx319_0, hx319_1, hx319_2⟩ := at_T33 HR0.out x5_1 p319 q319
                    obtain rfl : ad318 = ad319 := (by injection e319)
                    replace hx319_0 := (HB.out.cell (World.block_lt_of_cell? w _ hx319_0)).trans hx319_0
                    replace hx319_1 := (HB.out.cell (World.block_lt_of_cell? w _ hx319_1)).trans hx319_1
                    replace hx319_2 := (HB.out.cell (World.block_lt_of_cell? w _ hx319_2)).trans hx319_2
                    replace p319 := eq_true p319
                    replace q319 := eq_true q319
                    have p320 : 0 ≤ (x5_1 : Int) := of_decide_eq_true (by first | (with_reducible assumption) | assumption)
                    have q320 : x5_1 < (l0.length : Int) := of_decide_eq_true (by first | (with_reducible assumption) | assumption)
                    obtain ⟨ad320, e320, hx320_0, hx320_1, hx320_2⟩ := at_T33 HR0.out x5_1 p320 q320
                    obtain rfl : ad318 = ad320 := (by injection e320)
                    replace hx320_0 := (HB.out.cell (World.block_lt_of_cell? w _ hx320_0)).trans hx320_0
                    replace hx320_1 := (HB.out.cell (World.block_lt_of_cell? w _ hx320_1)).trans hx320_1
                    replace hx320_2 := (HB.out.cell (World.block_lt_of_cell? w _ hx320_2)).trans hx320_2
                    replace p320 := eq_true p320
                    replace q320 := eq_true q320
                    go_wp2
                    repeat (go_quiet (fail); try go_wp2)
                    go_roundg k1
                    case measure => have := HK1.out; omega
                    case rel => exact ⟨(x3_1 ++ ((rd_T33 l0 x5_1).f1)), (x4_1), (wrap64 (x5_1 + 1)), (by first | rfl | (simp; done) | (simp [*]; done)), (by first | rfl | (simp; done) | (simp [*]; done)), H', ⟨by have := HK1.out; omega⟩, ⟨by (with_reducible repeat (first | apply Kd.R_alloc | apply Kd.R_drewN | apply Kd.R_drew)); exact HO_4.out⟩, ⟨by repeat (first | (with_reducible first | exact HB.out | apply below_alloc | apply pw_below_drewN | apply below_drew1) | exact HB.out)⟩⟩
                  · rw [if_neg c11] at H
                    have c11b0 : (((rd_T33 l0 x5_1).f0) == 4) = false := beq_eq_false_iff_ne.mpr c11
                    have c11b1 : (((rd_T33 l0 x5_1).f0) != 4) = true := bne_iff_ne.mpr c11
                    by_cases c12 : ((rd_T33 l0 x5_1).f0) = 5
                    · rw [if_pos c12] at H
                      have c12b0 : (((rd_T33 l0 x5_1).f0) == 5) = true := beq_iff_eq.mpr c12
                      have c12b1 : (((rd_T33 l0 x5_1).f0) != 5) = false := bne_eq_false_iff_eq.mpr c12
                      clear c12
                      have H' := Aside0.mk H
                      clear H
                      have p318 : 0 ≤ (x5_1 : Int) := of_decide_eq_true (by first | (with_reducible assumption) | assumption)
                      have q318 : x5_1 < (l0.length : Int) := of_decide_eq_true (by first | (with_reducible assumption) | assumption)
                      obtain ⟨ad318, e318, hx318_0, hx318_1, hx318_2⟩ := at_T33 HR0.out x5_1 p318 q318
                      cases e318
                      replace hx318_0 := (HB.out.cell (World.block_lt_of_cell? w _ hx318_0)).trans hx318_0
                      replace hx318_1 := (HB.out.cell (World.block_lt_of_cell? w _ hx318_1)).trans hx318_1
                      replace hx318_2 := (HB.out.cell (World.block_lt_of_cell? w _ hx318_2)).trans hx318_2
                      replace p318 := eq_true p318
                      replace q318 := eq_true q318
                      have p319 : 0 ≤ (x5_1 : Int) := of_decide_eq_true (by first | (with_reducible assumption) | assumption)
                      have q319 : x5_1 < (l0.length : Int) := of_decide_eq_true (by first | (with_reducible assumption) | assumption)
                      obtain ⟨ad319, e319, hx319_0, hx319_1, hx319_2⟩ := at_T33 HR0.out x5_1 p319 q319
                      obtain rfl : ad318 = ad319 := (by injection e319)
                      replace hx319_0 := (HB.out.cell (World.block_lt_of_cell? w _ hx319_0)).trans hx319_0
                      replace hx319_1 := (HB.out.cell (World.block_lt_of_cell? w _ hx319_1)).trans hx319_1
                      replace hx319_2 := (HB.out.cell (World.block_lt_of_cell? w _ hx319_2)).trans hx319_2
                      replace p319 := eq_true p319
                      replace q319 := eq_true q319
                      have p320 : 0 ≤ (x5_1 : Int) := of_decide_eq_true (by first | (with_reducible assumption) | assumption)
                      have q320 : x5_1 < (l0.length : Int) := of_decide_eq_true (by first | (with_reducible assumption) | assumption)
                      obtain ⟨ad320, e320, hx320_0, hx320_1, hx320_2⟩ := at_T33 HR0.out x5_1 p320 q320
                      obtain rfl : ad318 = ad320 := (by injection e320)
                      replace hx320_0 := (HB.out.cell (World.block_lt_of_cell? w _ hx320_0)).trans hx320_0
                      replace hx320_1 := (HB.out.cell (World.block_lt_of_cell? w _ hx320_1)).trans hx320_1
                      replace hx320_2 := (HB.out.cell (World.block_lt_of_cell? w _ hx320_2)).trans hx320_2
                      replace p320 := eq_true p320
                      replace q320 := eq_true q320
                      have p321 : 0 ≤ (x5_1 : Int) := of_decide_eq_true (by first | (with_reducible assumption) | assumption)
                      have q321 : x5_1 < (l0.length : Int) := of_decide_eq_true (by first | (with_reducible assumption) | assumption)
                      obtain ⟨ad321, e321, hx321_0, hx321_1, hx321_2⟩ := at_T33 HR0.out x5_1 p321 q321
                      obtain rfl : ad318 = ad321 := (by injection e321)
                      replace hx321_0 := (HB.out.cell (World.block_lt_of_cell? w _ hx321_0)).trans hx321_0
                      replace hx321_1 := (HB.out.cell (World.block_lt_of_cell? w _ hx321_1)).trans hx321_1
                      replace hx321_2 := (HB.out.cell (World.block_lt_of_cell? w _ hx321_2)).trans hx321_2
                      replace p321 := eq_true p321
                      replace q321 := eq_true q321
                      go_wp2
                      repeat (go_quiet (fail); try go_wp2)
                      go_roundg k1
                      case measure => have := HK1.out; omega
                      case rel => exact ⟨(x3_1 ++ ((rd_T33 l0 x5_1).f1)), (x4_1), (wrap64 (x5_1 + 1)), (by first | rfl | (simp; done) | (simp [*]; done)), (by first | rfl | (simp; done) | (simp [*]; done)), H', ⟨by have := HK1.out; omega⟩, ⟨by (with_reducible repeat (first | apply Kd.R_alloc | apply Kd.R_drewN | apply Kd.R_drew)); exact HO_4.out⟩, ⟨by repeat (first | (with_reducible first | exact HB.out | apply below_alloc | apply pw_below_drewN | apply below_drew1) | exact HB.out)⟩⟩
                    · rw [if_neg c12] at H
                      have c12b0 : (((rd_T33 l0 x5_1).f0) == 5) = false := beq_eq_false_iff_ne.mpr c12
                      have c12b1 : (((rd_T33 l0 x5_1).f0) != 5) = true := bne_iff_ne.mpr c12
                      by_cases c13 : x4_1.length < 4398046511104
                      · rw [if_pos c13] at H
                        have LMc13 := Aside0.mk c13
                        clear c13
                        obtain ⟨y323, hy323⟩ : ∃ y_ : List (S33), y_ = (x4_1 ++ [(⟨(rd_T33 l0 x5_1).f0, (rd_T33 l0 x5_1).f1, (rd_T33 l0 x5_1).f2⟩ : S33)]) := ⟨_, rfl⟩
                        replace H : (backsteplaw02_LexerSolid.l0 k1 l0 (x3_1 ++ ((rd_T33 l0 x5_1).f1)) y323 (wrap64 (x5_1 + 1))) = some r := by first | (rw [hy323]; with_reducible exact H) | (have H2_ := (Option.bind_some _ _).symm.trans H; rw [hy323]; with_reducible exact H2_) | (have H2_ := (Option.bind_some _ _).symm.trans H; with_reducible exact H2_) | with_reducible exact H | (rw [hy323]; exact H) | exact H
                        have Ny323 := Aside0.mk hy323
                        clear hy323
                        have H' := Aside0.mk H
                        clear H
                        have p318 : 0 ≤ (x5_1 : Int) := of_decide_eq_true (by first | (with_reducible assumption) | assumption)
                        have q318 : x5_1 < (l0.length : Int) := of_decide_eq_true (by first | (with_reducible assumption) | assumption)
                        obtain ⟨ad318, e318, hx318_0, hx318_1, hx318_2⟩ := at_T33 HR0.out x5_1 p318 q318
                        cases e318
                        replace hx318_0 := (HB.out.cell (World.block_lt_of_cell? w _ hx318_0)).trans hx318_0
                        replace hx318_1 := (HB.out.cell (World.block_lt_of_cell? w _ hx318_1)).trans hx318_1
                        replace hx318_2 := (HB.out.cell (World.block_lt_of_cell? w _ hx318_2)).trans hx318_2
                        replace p318 := eq_true p318
                        replace q318 := eq_true q318
                        have p319 : 0 ≤ (x5_1 : Int) := of_decide_eq_true (by first | (with_reducible assumption) | assumption)
                        have q319 : x5_1 < (l0.length : Int) := of_decide_eq_true (by first | (with_reducible assumption) | assumption)
                        obtain ⟨ad319, e319, hx319_0, hx319_1, hx319_2⟩ := at_T33 HR0.out x5_1 p319 q319
                        obtain rfl : ad318 = ad319 := (by injection e319)
                        replace hx319_0 := (HB.out.cell (World.block_lt_of_cell? w _ hx319_0)).trans hx319_0
                        replace hx319_1 := (HB.out.cell (World.block_lt_of_cell? w _ hx319_1)).trans hx319_1
                        replace hx319_2 := (HB.out.cell (World.block_lt_of_cell? w _ hx319_2)).trans hx319_2
                        replace p319 := eq_true p319
                        replace q319 := eq_true q319
                        have p320 : 0 ≤ (x5_1 : Int) := of_decide_eq_true (by first | (with_reducible assumption) | assumption)
                        have q320 : x5_1 < (l0.length : Int) := of_decide_eq_true (by first | (with_reducible assumption) | assumption)
                        obtain ⟨ad320, e320, hx320_0, hx320_1, hx320_2⟩ := at_T33 HR0.out x5_1 p320 q320
                        obtain rfl : ad318 = ad320 := (by injection e320)
                        replace hx320_0 := (HB.out.cell (World.block_lt_of_cell? w _ hx320_0)).trans hx320_0
                        replace hx320_1 := (HB.out.cell (World.block_lt_of_cell? w _ hx320_1)).trans hx320_1
                        replace hx320_2 := (HB.out.cell (World.block_lt_of_cell? w _ hx320_2)).trans hx320_2
                        replace p320 := eq_true p320
                        replace q320 := eq_true q320
                        have p321 : 0 ≤ (x5_1 : Int) := of_decide_eq_true (by first | (with_reducible assumption) | assumption)
                        have q321 : x5_1 < (l0.length : Int) := of_decide_eq_true (by first | (with_reducible assumption) | assumption)
                        obtain ⟨ad321, e321, hx321_0, hx321_1, hx321_2⟩ := at_T33 HR0.out x5_1 p321 q321
                        obtain rfl : ad318 = ad321 := (by injection e321)
                        replace hx321_0 := (HB.out.cell (World.block_lt_of_cell? w _ hx321_0)).trans hx321_0
                        replace hx321_1 := (HB.out.cell (World.block_lt_of_cell? w _ hx321_1)).trans hx321_1
                        replace hx321_2 := (HB.out.cell (World.block_lt_of_cell? w _ hx321_2)).trans hx321_2
                        replace p321 := eq_true p321
                        replace q321 := eq_true q321
                        have p322 : 0 ≤ (x5_1 : Int) := of_decide_eq_true (by first | (with_reducible assumption) | assumption)
                        have q322 : x5_1 < (l0.length : Int) := of_decide_eq_true (by first | (with_reducible assumption) | assumption)
                        obtain ⟨ad322, e322, hx322_0, hx322_1, hx322_2⟩ := at_T33 HR0.out x5_1 p322 q322
                        obtain rfl : ad318 = ad322 := (by injection e322)
                        replace hx322_0 := (HB.out.cell (World.block_lt_of_cell? w _ hx322_0)).trans hx322_0
                        replace hx322_1 := (HB.out.cell (World.block_lt_of_cell? w _ hx322_1)).trans hx322_1
                        replace hx322_2 := (HB.out.cell (World.block_lt_of_cell? w _ hx322_2)).trans hx322_2
                        replace p322 := eq_true p322
                        replace q322 := eq_true q322
                        go_wp2_with (first | ((with_reducible refine gate_builtin (b := .append) (xs := #[.tmp 47, .tmp 52]) rfl ?_); at_builtin; refine Kd.R_append k33 (w0 := w) w.heap.size rfl (.tmp 47) (.tmp 52) 23 33 (.agg #[(.int .u8 0), (.string ⟨#[]⟩), (.int .i64 0)]) 32 rfl Tryd.underlying23 info33 rfl (by decide) (by omega) u4 x4_1 (⟨(rd_T33 l0 x5_1).f0, (rd_T33 l0 x5_1).f1, (rd_T33 l0 x5_1).f2⟩ : S33) [.int .u8 ((rd_T33 l0 x5_1).f0), .string ((rd_T33 l0 x5_1).f1), .int .i64 ((rd_T33 l0 x5_1).f2)] (fun _ => True) (fun _ => False) rfl rfl ?aP (fun _ hk => hk.elim) ?aF ?aO ?aB ?aS ?aL ?_; (case aP => exact k33_mkM _ _ _ (⟨(rd_T33 l0 x5_1).f0, (rd_T33 l0 x5_1).f1, (rd_T33 l0 x5_1).f2⟩ : S33)); (case aB => exact (by repeat (first | (with_reducible first | exact HB.out | apply below_alloc | apply pw_below_drewN | apply below_drew1) | exact HB.out))); (case aF => exact (fun _ _ => trivial)); (case aO => exact (by (with_reducible repeat (first | apply Kd.R_alloc | apply Kd.R_drewN | apply Kd.R_drew)); exact HO_4.out)); (case aS => exact (below_size (by repeat (first | (with_reducible first | exact HB.out | apply below_alloc | apply pw_below_drewN | apply below_drew1) | exact HB.out)))); (case aL => have := LMc13.out; omega); intro v324 w14 ho hb hg hat; rw [← Ny323.out] at ho; have n0_ := Aside0.mk (hb); have n1_ := Aside0.mk (ho); clear HB; clear HO_4; have HB := n0_; have HO325 := n1_; clear n0_ n1_; clear ho hb hg hat))
                        repeat (go_quiet (first | ((with_reducible refine gate_builtin (b := .append) (xs := #[.tmp 47, .tmp 52]) rfl ?_); at_builtin; refine Kd.R_append k33 (w0 := w) w.heap.size rfl (.tmp 47) (.tmp 52) 23 33 (.agg #[(.int .u8 0), (.string ⟨#[]⟩), (.int .i64 0)]) 32 rfl Tryd.underlying23 info33 rfl (by decide) (by omega) u4 x4_1 (⟨(rd_T33 l0 x5_1).f0, (rd_T33 l0 x5_1).f1, (rd_T33 l0 x5_1).f2⟩ : S33) [.int .u8 ((rd_T33 l0 x5_1).f0), .string ((rd_T33 l0 x5_1).f1), .int .i64 ((rd_T33 l0 x5_1).f2)] (fun _ => True) (fun _ => False) rfl rfl ?aP (fun _ hk => hk.elim) ?aF ?aO ?aB ?aS ?aL ?_; (case aP => exact k33_mkM _ _ _ (⟨(rd_T33 l0 x5_1).f0, (rd_T33 l0 x5_1).f1, (rd_T33 l0 x5_1).f2⟩ : S33)); (case aB => exact (by repeat (first | (with_reducible first | exact HB.out | apply below_alloc | apply pw_below_drewN | apply below_drew1) | exact HB.out))); (case aF => exact (fun _ _ => trivial)); (case aO => exact (by (with_reducible repeat (first | apply Kd.R_alloc | apply Kd.R_drewN | apply Kd.R_drew)); exact HO_4.out)); (case aS => exact (below_size (by repeat (first | (with_reducible first | exact HB.out | apply below_alloc | apply pw_below_drewN | apply below_drew1) | exact HB.out)))); (case aL => have := LMc13.out; omega); intro v324 w14 ho hb hg hat; rw [← Ny323.out] at ho; have n0_ := Aside0.mk (hb); have n1_ := Aside0.mk (ho); clear HB; clear HO_4; have HB := n0_; have HO325 := n1_; clear n0_ n1_; clear ho hb hg hat)); try go_wp2_with (first | ((with_reducible refine gate_builtin (b := .append) (xs := #[.tmp 47, .tmp 52]) rfl ?_); at_builtin; refine Kd.R_append k33 (w0 := w) w.heap.size rfl (.tmp 47) (.tmp 52) 23 33 (.agg #[(.int .u8 0), (.string ⟨#[]⟩), (.int .i64 0)]) 32 rfl Tryd.underlying23 info33 rfl (by decide) (by omega) u4 x4_1 (⟨(rd_T33 l0 x5_1).f0, (rd_T33 l0 x5_1).f1, (rd_T33 l0 x5_1).f2⟩ : S33) [.int .u8 ((rd_T33 l0 x5_1).f0), .string ((rd_T33 l0 x5_1).f1), .int .i64 ((rd_T33 l0 x5_1).f2)] (fun _ => True) (fun _ => False) rfl rfl ?aP (fun _ hk => hk.elim) ?aF ?aO ?aB ?aS ?aL ?_; (case aP => exact k33_mkM _ _ _ (⟨(rd_T33 l0 x5_1).f0, (rd_T33 l0 x5_1).f1, (rd_T33 l0 x5_1).f2⟩ : S33)); (case aB => exact (by repeat (first | (with_reducible first | exact HB.out | apply below_alloc | apply pw_below_drewN | apply below_drew1) | exact HB.out))); (case aF => exact (fun _ _ => trivial)); (case aO => exact (by (with_reducible repeat (first | apply Kd.R_alloc | apply Kd.R_drewN | apply Kd.R_drew)); exact HO_4.out)); (case aS => exact (below_size (by repeat (first | (with_reducible first | exact HB.out | apply below_alloc | apply pw_below_drewN | apply below_drew1) | exact HB.out)))); (case aL => have := LMc13.out; omega); intro v324 w14 ho hb hg hat; rw [← Ny323.out] at ho; have n0_ := Aside0.mk (hb); have n1_ := Aside0.mk (ho); clear HB; clear HO_4; have HB := n0_; have HO325 := n1_; clear n0_ n1_; clear ho hb hg hat)))
                        go_roundg k1
                        case measure => have := HK1.out; omega
                        case rel => exact ⟨(x3_1 ++ ((rd_T33 l0 x5_1).f1)), (y323), (wrap64 (x5_1 + 1)), (by first | rfl | (simp; done) | (simp [*]; done)), (by first | rfl | (simp; done) | (simp [*]; done)), H', ⟨by have := HK1.out; omega⟩, ⟨by (with_reducible repeat (first | apply Kd.R_alloc | apply Kd.R_drewN | apply Kd.R_drew)); exact HO325.out⟩, ⟨by repeat (first | (with_reducible first | exact HB.out | apply below_alloc | apply pw_below_drewN | apply below_drew1) | exact HB.out)⟩⟩
                      · rw [if_neg c13] at H
                        exact absurd H (by simp)
                · rw [if_neg c10] at H
                  exact absurd H (by simp)
            · rw [if_neg c8] at H
              exact absurd H (by simp)
          · rw [if_neg c7] at H
            have c7b0 : decide (x5_1 < (l0.length : Int)) = false := decide_eq_false c7
            clear c7
            replace H := Option.bind_eq_some_iff.mp H
            obtain ⟨t326, A150, H⟩ := H
            replace H : (if (t326.length : Int) = (x4_1.length : Int) then ((lexer_Join.f l0).bind fun t329 => (backsteplaw02_LexerSolid.j1 k1 l0 x3_1 x4_1 t326 (t329.toList != x3_1.toList))) else (backsteplaw02_LexerSolid.j1 k1 l0 x3_1 x4_1 t326 true)) = some r := H
            have A15 := Aside0.mk A150
            clear A150
            have HC16 := Aside0.mk H
            clear H
            go_upto_region 16 with (first | (go_at_call 16; (with_reducible refine (lexer_Solid.calls k1 _ _ l0 t326 _ ?side1 ?side2 A15.out).mono ?_); (case side1 => repeat (first | exact (Kd.C_below HR0.out HB.out) | (with_reducible refine Kd.C_alloc ?_ _) | (with_reducible refine Kd.C_drewN ?_ _) | (with_reducible refine Kd.C_drew ?_))); (case side2 => exact HC0.out); rintro e w17 ⟨v327, rfl, ho0, hb⟩; have n0_ := Aside0.mk (Kd.R_elder' (by (with_reducible repeat (first | apply Kd.R_alloc | apply Kd.R_drewN | apply Kd.R_drew)); exact HO_4.out) (Kd.R_base ho0) hb); have n1_ := Aside0.mk (Kd.R_lower (Kd.R_new' ho0 (Kd.R_lt (by (with_reducible repeat (first | apply Kd.R_alloc | apply Kd.R_drewN | apply Kd.R_drew)); exact HO_4.out))) (below_size (by repeat (first | (with_reducible first | exact HB.out | apply below_alloc | apply pw_below_drewN | apply below_drew1) | exact HB.out)))); have n2_ := Aside0.mk (below_step (by repeat (first | (with_reducible first | exact HB.out | apply below_alloc | apply pw_below_drewN | apply below_drew1) | exact HB.out)) hb); clear HO_4; clear HB; have HO_4 := n0_; have HO328 := n1_; have HB := n2_; clear n0_ n1_ n2_; (try clear hb); (try clear hb2); (try clear hk); (try clear hi); (try clear ho0)))
            repeat (go_quiet (first | (go_at_call 16; (with_reducible refine (lexer_Solid.calls k1 _ _ l0 t326 _ ?side1 ?side2 A15.out).mono ?_); (case side1 => repeat (first | exact (Kd.C_below HR0.out HB.out) | (with_reducible refine Kd.C_alloc ?_ _) | (with_reducible refine Kd.C_drewN ?_ _) | (with_reducible refine Kd.C_drew ?_))); (case side2 => exact HC0.out); rintro e w17 ⟨v327, rfl, ho0, hb⟩; have n0_ := Aside0.mk (Kd.R_elder' (by (with_reducible repeat (first | apply Kd.R_alloc | apply Kd.R_drewN | apply Kd.R_drew)); exact HO_4.out) (Kd.R_base ho0) hb); have n1_ := Aside0.mk (Kd.R_lower (Kd.R_new' ho0 (Kd.R_lt (by (with_reducible repeat (first | apply Kd.R_alloc | apply Kd.R_drewN | apply Kd.R_drew)); exact HO_4.out))) (below_size (by repeat (first | (with_reducible first | exact HB.out | apply below_alloc | apply pw_below_drewN | apply below_drew1) | exact HB.out)))); have n2_ := Aside0.mk (below_step (by repeat (first | (with_reducible first | exact HB.out | apply below_alloc | apply pw_below_drewN | apply below_drew1) | exact HB.out)) hb); clear HO_4; clear HB; have HO_4 := n0_; have HO328 := n1_; have HB := n2_; clear n0_ n1_ n2_; (try clear hb); (try clear hb2); (try clear hk); (try clear hi); (try clear ho0))); go_upto_region 16 with (first | (go_at_call 16; (with_reducible refine (lexer_Solid.calls k1 _ _ l0 t326 _ ?side1 ?side2 A15.out).mono ?_); (case side1 => repeat (first | exact (Kd.C_below HR0.out HB.out) | (with_reducible refine Kd.C_alloc ?_ _) | (with_reducible refine Kd.C_drewN ?_ _) | (with_reducible refine Kd.C_drew ?_))); (case side2 => exact HC0.out); rintro e w17 ⟨v327, rfl, ho0, hb⟩; have n0_ := Aside0.mk (Kd.R_elder' (by (with_reducible repeat (first | apply Kd.R_alloc | apply Kd.R_drewN | apply Kd.R_drew)); exact HO_4.out) (Kd.R_base ho0) hb); have n1_ := Aside0.mk (Kd.R_lower (Kd.R_new' ho0 (Kd.R_lt (by (with_reducible repeat (first | apply Kd.R_alloc | apply Kd.R_drewN | apply Kd.R_drew)); exact HO_4.out))) (below_size (by repeat (first | (with_reducible first | exact HB.out | apply below_alloc | apply pw_below_drewN | apply below_drew1) | exact HB.out)))); have n2_ := Aside0.mk (below_step (by repeat (first | (with_reducible first | exact HB.out | apply below_alloc | apply pw_below_drewN | apply below_drew1) | exact HB.out)) hb); clear HO_4; clear HB; have HO_4 := n0_; have HO328 := n1_; have HB := n2_; clear n0_ n1_ n2_; (try clear hb); (try clear hb2); (try clear hk); (try clear hi); (try clear ho0))))
            (try simp only [Act.put, List.setIfInBounds_toArray, List.set_cons_zero, List.set_cons_succ])
            go_cut [66] (fun v66 wc => ∃ (kq : Nat) (x66_15 : Bool), v66 = .bool x66_15 ∧ Aside0 (backsteplaw02_LexerSolid.j1 kq l0 x3_1 x4_1 t326 x66_15 = some r) ∧ Aside0 (kq ≤ k1) ∧ Aside0 (Kd.R k33 33 wc w.heap.size (fun k_ => some k_ ≠ (v327 : Value).ownBlock) u4 x4_1) ∧ Aside0 (Kd.R k33 33 wc w.heap.size (fun k_ => some k_ ≠ (u4 : Value).ownBlock) v327 t326) ∧ Aside0 (Below w.heap.size w wc))
            case first =>
              have H := HC16.out
              clear HC16
              by_cases c18 : (t326.length : Int) = (x4_1.length : Int)
              · rw [if_pos c18] at H
                have c18b0 : ((t326.length : Int) == (x4_1.length : Int)) = true := beq_iff_eq.mpr c18
                have c18b1 : ((t326.length : Int) != (x4_1.length : Int)) = false := bne_eq_false_iff_eq.mpr c18
                have c18b2 : (t326.length == x4_1.length) = true := by first | simpa using c18 | (simp at c18 ⊢; omega)
                clear c18
                (first | rw [c18b0] | (simp only [i64_w, i32_w]; rw [c18b0]) | skip)
                replace H := Option.bind_eq_some_iff.mp H
                obtain ⟨t329, A190, H⟩ := H
                replace H : (backsteplaw02_LexerSolid.j1 k1 l0 x3_1 x4_1 t326 (t329.toList != x3_1.toList)) = some r := H
                have A19 := Aside0.mk A190
                clear A190
                have H' := Aside0.mk H
                clear H
                obtain ⟨Ao20, co20, eo20⟩ := Kd.R_slice HO328.out
                subst eo20
                obtain ⟨Ao21, co21, eo21⟩ := Kd.R_slice HO_4.out
                subst eo21
                go_wp2_with (first | (go_at_call 22; (with_reducible refine (lexer_Join.calls _ _ l0 t329 _ ?side1 ?side2 A19.out).mono ?_); (case side1 => repeat (first | exact (Kd.C_below HR0.out HB.out) | (with_reducible refine Kd.C_alloc ?_ _) | (with_reducible refine Kd.C_drewN ?_ _) | (with_reducible refine Kd.C_drew ?_))); (case side2 => exact HC0.out); rintro e w22 ⟨rfl, hb⟩; have n0_ := Aside0.mk (Kd.R_below (by (with_reducible repeat (first | apply Kd.R_alloc | apply Kd.R_drewN | apply Kd.R_drew)); exact HO_4.out) hb); have n1_ := Aside0.mk (Kd.R_below (by (with_reducible repeat (first | apply Kd.R_alloc | apply Kd.R_drewN | apply Kd.R_drew)); exact HO328.out) hb); have n2_ := Aside0.mk (below_step (by repeat (first | (with_reducible first | exact HB.out | apply below_alloc | apply pw_below_drewN | apply below_drew1) | exact HB.out)) hb); clear HO_4; clear HO328; clear HB; have HO_4 := n0_; have HO328 := n1_; have HB := n2_; clear n0_ n1_ n2_; (try clear hb); (try clear hb2); (try clear hk); (try clear hi)))
                repeat (go_quiet (first | (go_at_call 22; (with_reducible refine (lexer_Join.calls _ _ l0 t329 _ ?side1 ?side2 A19.out).mono ?_); (case side1 => repeat (first | exact (Kd.C_below HR0.out HB.out) | (with_reducible refine Kd.C_alloc ?_ _) | (with_reducible refine Kd.C_drewN ?_ _) | (with_reducible refine Kd.C_drew ?_))); (case side2 => exact HC0.out); rintro e w22 ⟨rfl, hb⟩; have n0_ := Aside0.mk (Kd.R_below (by (with_reducible repeat (first | apply Kd.R_alloc | apply Kd.R_drewN | apply Kd.R_drew)); exact HO_4.out) hb); have n1_ := Aside0.mk (Kd.R_below (by (with_reducible repeat (first | apply Kd.R_alloc | apply Kd.R_drewN | apply Kd.R_drew)); exact HO328.out) hb); have n2_ := Aside0.mk (below_step (by repeat (first | (with_reducible first | exact HB.out | apply below_alloc | apply pw_below_drewN | apply below_drew1) | exact HB.out)) hb); clear HO_4; clear HO328; clear HB; have HO_4 := n0_; have HO328 := n1_; have HB := n2_; clear n0_ n1_ n2_; (try clear hb); (try clear hb2); (try clear hk); (try clear hi))); try go_wp2_with (first | (go_at_call 22; (with_reducible refine (lexer_Join.calls _ _ l0 t329 _ ?side1 ?side2 A19.out).mono ?_); (case side1 => repeat (first | exact (Kd.C_below HR0.out HB.out) | (with_reducible refine Kd.C_alloc ?_ _) | (with_reducible refine Kd.C_drewN ?_ _) | (with_reducible refine Kd.C_drew ?_))); (case side2 => exact HC0.out); rintro e w22 ⟨rfl, hb⟩; have n0_ := Aside0.mk (Kd.R_below (by (with_reducible repeat (first | apply Kd.R_alloc | apply Kd.R_drewN | apply Kd.R_drew)); exact HO_4.out) hb); have n1_ := Aside0.mk (Kd.R_below (by (with_reducible repeat (first | apply Kd.R_alloc | apply Kd.R_drewN | apply Kd.R_drew)); exact HO328.out) hb); have n2_ := Aside0.mk (below_step (by repeat (first | (with_reducible first | exact HB.out | apply below_alloc | apply pw_below_drewN | apply below_drew1) | exact HB.out)) hb); clear HO_4; clear HO328; clear HB; have HO_4 := n0_; have HO328 := n1_; have HB := n2_; clear n0_ n1_ n2_; (try clear hb); (try clear hb2); (try clear hk); (try clear hi))))
                go_meet
                case rel => exact ⟨_, ((t329.toList != x3_1.toList)), (by first | rfl | (simp; done) | (simp [*]; done)), H', ⟨by have := HK1.out; first | omega | exact Nat.le_refl _⟩, ⟨by (with_reducible repeat (first | apply Kd.R_alloc | apply Kd.R_drewN | apply Kd.R_drew)); exact Kd.R_mono HO_4.out (fun _ hk => hk.2)⟩, ⟨by (with_reducible repeat (first | apply Kd.R_alloc | apply Kd.R_drewN | apply Kd.R_drew)); exact Kd.R_mono HO328.out (fun _ hk => hk.2)⟩, ⟨by repeat (first | (with_reducible first | exact HB.out | apply below_alloc | apply pw_below_drewN | apply below_drew1) | exact HB.out)⟩⟩
              · rw [if_neg c18] at H
                have c18b0 : ((t326.length : Int) == (x4_1.length : Int)) = false := beq_eq_false_iff_ne.mpr c18
                have c18b1 : ((t326.length : Int) != (x4_1.length : Int)) = true := bne_iff_ne.mpr c18
                have c18b2 : (t326.length == x4_1.length) = false := by first | simpa using c18 | (simp at c18 ⊢; omega)
                (first | rw [c18b0] | (simp only [i64_w, i32_w]; rw [c18b0]) | skip)
                have H' := Aside0.mk H
                clear H
                obtain ⟨Ao23, co23, eo23⟩ := Kd.R_slice HO328.out
                subst eo23
                obtain ⟨Ao24, co24, eo24⟩ := Kd.R_slice HO_4.out
                subst eo24
                go_wp2
                repeat (go_quiet (fail); try go_wp2)
                go_meet
                case rel => exact ⟨_, (true), (by first | rfl | (simp; done) | (simp [*]; done)), H', ⟨by have := HK1.out; first | omega | exact Nat.le_refl _⟩, ⟨by (with_reducible repeat (first | apply Kd.R_alloc | apply Kd.R_drewN | apply Kd.R_drew)); exact Kd.R_mono HO_4.out (fun _ hk => hk.2)⟩, ⟨by (with_reducible repeat (first | apply Kd.R_alloc | apply Kd.R_drewN | apply Kd.R_drew)); exact Kd.R_mono HO328.out (fun _ hk => hk.2)⟩, ⟨by repeat (first | (with_reducible first | exact HB.out | apply below_alloc | apply pw_below_drewN | apply below_drew1) | exact HB.out)⟩⟩
            case rest =>
              clear HC16
              try clear c1
              try clear p2
              try clear c3
              try clear p3
              try clear q3
              try clear hx3
              try clear c4
              try clear c4b0
              try clear c4b1
              try clear p6
              try clear c7
              try clear c7b0
              try clear c8
              try clear c8b0
              try clear c9
              try clear c9b0
              try clear c9b1
              try clear c10
              try clear c10b0
              try clear c10b1
              try clear c10b2
              try clear c11
              try clear c11b0
              try clear c11b1
              try clear c12
              try clear c12b0
              try clear c12b1
              try clear c13
              try clear c18
              try clear c18b0
              try clear c18b1
              try clear c18b2
              try clear hx318_0
              try clear hx318_1
              try clear hx318_2
              try clear hx319_0
              try clear hx319_1
              try clear hx319_2
              try clear hx320_0
              try clear hx320_1
              try clear hx320_2
              try clear hx321_0
              try clear hx321_1
              try clear hx321_2
              try clear hx322_0
              try clear hx322_1
              try clear hx322_2
              try clear p2
              try clear p318
              try clear p319
              try clear p320
              try clear p321
              try clear p322
              try clear q318
              try clear q319
              try clear q320
              try clear q321
              try clear q322
              obtain ⟨kq, x66_15, rfl, HA, HJ15, HO_4, HO_6, HB⟩ := hcut
              cases kq with
              | zero => exact absurd HA.out (by simp [backsteplaw02_LexerSolid.j1])
              | succ kj15 =>
                have H := HA.out
                clear HA
                simp only [backsteplaw02_LexerSolid.j1] at H
                by_cases c25 : x66_15 = true
                · subst c25
                  have H1 : (some false) = some r := by rw [if_pos rfl] at H; exact H
                  clear H
                  have H := H1
                  clear H1
                  obtain rfl := Option.some.inj H
                  go_wp2
                  repeat (go_quiet (fail); try go_wp2)
                  go_ret
                  exact ⟨by first | rfl | (simp [errW_none, errW_some] <;> rfl) | (simp [*, errW_none, errW_some] <;> rfl), by repeat (first | (with_reducible first | exact HB.out | apply below_alloc | apply pw_below_drewN | apply below_drew1) | exact HB.out)⟩
                · replace c25 := Bool.eq_false_iff.mpr c25
                  subst c25
                  have H1 : (backsteplaw02_LexerSolid.l1 kj15 l0 x3_1 x4_1 t326 0) = some r := by rw [if_neg (show ¬ (false = true) by decide)] at H; exact H
                  clear H
                  have H := H1
                  clear H1
                  have H' := Aside0.mk H
                  clear H
                  go_wp2
                  repeat (go_quiet (fail); try go_wp2)
                  go_loopg [7] kj15 (fun kq v7 w' => ∃ (x6_3 : List (S33)) (x7_3 : Int), v7 = .int .i64 x7_3 ∧ Aside0 (backsteplaw02_LexerSolid.l1 kq l0 x3_1 x4_1 x6_3 x7_3 = some r) ∧ Aside0 (kq ≤ kj15) ∧ Aside0 (Kd.R k33 33 w' w.heap.size (fun k_ => some k_ ≠ (v327 : Value).ownBlock) u4 x4_1) ∧ Aside0 (Kd.R k33 33 w' w.heap.size (fun k_ => some k_ ≠ (u4 : Value).ownBlock) v327 x6_3) ∧ Aside0 (Below w.heap.size w w'))
                  case atStart => exact ⟨(t326), (0), (by first | rfl | (simp; done) | (simp [*]; done)), H', ⟨Nat.le_refl _⟩, ⟨by (with_reducible repeat (first | apply Kd.R_alloc | apply Kd.R_drewN | apply Kd.R_drew)); exact HO_4.out⟩, ⟨by (with_reducible repeat (first | apply Kd.R_alloc | apply Kd.R_drewN | apply Kd.R_drew)); exact HO_6.out⟩, ⟨by repeat (first | (with_reducible first | exact HB.out | apply below_alloc | apply pw_below_drewN | apply below_drew1) | exact HB.out)⟩⟩
                  case round =>
                    clear H'
                    try clear c1
                    try clear c2
                    try clear p2
                    try clear c3
                    try clear p3
                    try clear q3
                    try clear hx3
                    try clear c4
                    try clear c4b0
                    try clear c4b1
                    try clear p6
                    try clear c7
                    try clear c7b0
                    try clear c8
                    try clear c8b0
                    try clear c9
                    try clear c9b0
                    try clear c9b1
                    try clear c10
                    try clear c10b0
                    try clear c10b1
                    try clear c10b2
                    try clear c11
                    try clear c11b0
                    try clear c11b1
                    try clear c12
                    try clear c12b0
                    try clear c12b1
                    try clear c13
                    try clear c18
                    try clear c18b0
                    try clear c18b1
                    try clear c18b2
                    try clear c25
                    try clear hx318_0
                    try clear hx318_1
                    try clear hx318_2
                    try clear hx319_0
                    try clear hx319_1
                    try clear hx319_2
                    try clear hx320_0
                    try clear hx320_1
                    try clear hx320_2
                    try clear hx321_0
                    try clear hx321_1
                    try clear hx321_2
                    try clear hx322_0
                    try clear hx322_1
                    try clear hx322_2
                    try clear p2
                    try clear p3
                    try clear p318
                    try clear p319
                    try clear p320
                    try clear p321
                    try clear p322
                    try clear p6
                    try clear q3
                    try clear q318
                    try clear q319
                    try clear q320
                    try clear q321
                    try clear q322
                    obtain ⟨x6_3, x7_3, rfl, HA, HK3, HO_4, HO_6, HB⟩ := hrel
                    cases gk with
                    | zero => exact absurd HA.out (by simp [backsteplaw02_LexerSolid.l1])
                    | succ k3 =>
                      have H := HA.out
                      clear HA
                      simp only [backsteplaw02_LexerSolid.l1] at H
                      by_cases c26 : x7_3 < (x6_3.length : Int)
                      · rw [if_pos c26] at H
                        have c26b0 : decide (x7_3 < (x6_3.length : Int)) = true := decide_eq_true c26
                        clear c26
                        by_cases c27 : 0 ≤ x7_3
                        · rw [if_pos c27] at H
                          have c27b0 : decide (0 ≤ x7_3) = true := decide_eq_true c27
                          clear c27
                          by_cases c28 : x7_3 < (x4_1.length : Int)
                          · rw [if_pos c28] at H
                            have c28b0 : decide (x7_3 < (x4_1.length : Int)) = true := decide_eq_true c28
                            clear c28
                            by_cases c29 : (!(((rd_T33 x6_3 x7_3).f0) == ((rd_T33 x4_1 x7_3).f0)) || (!((((rd_T33 x6_3 x7_3).f1).toList) == (((rd_T33 x4_1 x7_3).f1).toList)) || (!(((rd_T33 x6_3 x7_3).f2) == ((rd_T33 x4_1 x7_3).f2))))) = true
                            · rw [if_pos c29] at H
                              have c29b0 : (!(((rd_T33 x6_3 x7_3).f0) == ((rd_T33 x4_1 x7_3).f0)) || (!((((rd_T33 x6_3 x7_3).f1).toList) == (((rd_T33 x4_1 x7_3).f1).toList)) || (!(((rd_T33 x6_3 x7_3).f2) == ((rd_T33 x4_1 x7_3).f2))))) = true := c29
                              clear c29
                              obtain rfl := Option.some.inj H
                              obtain ⟨Ao30, co30, eo30⟩ := Kd.R_slice HO_6.out
                              subst eo30
                              have p330 : 0 ≤ (x7_3 : Int) := of_decide_eq_true (by first | (with_reducible assumption) | assumption)
                              have q330 : x7_3 < (x6_3.length : Int) := of_decide_eq_true (by first | (with_reducible assumption) | assumption)
                              obtain ⟨ad330, e330, hx330_0, hx330_1, hx330_2⟩ := at_T33 (Kd.R_reads' HO_6.out).2.2 x7_3 p330 q330
                              cases e330
                              replace p330 := eq_true p330
                              replace q330 := eq_true q330
                              obtain ⟨Ao31, co31, eo31⟩ := Kd.R_slice HO_4.out
                              subst eo31
                              have p331 : 0 ≤ (x7_3 : Int) := of_decide_eq_true (by first | (with_reducible assumption) | assumption)
                              have q331 : x7_3 < (x4_1.length : Int) := of_decide_eq_true (by first | (with_reducible assumption) | assumption)
                              obtain ⟨ad331, e331, hx331_0, hx331_1, hx331_2⟩ := at_T33 (Kd.R_reads' HO_4.out).2.2 x7_3 p331 q331
                              cases e331
                              replace p331 := eq_true p331
                              replace q331 := eq_true q331
                              go_wp2
                              repeat (go_quiet (fail); try go_wp2)
                              go_ret
                              exact ⟨by first | rfl | (simp [errW_none, errW_some] <;> rfl) | (simp [*, errW_none, errW_some] <;> rfl), by repeat (first | (with_reducible first | exact HB.out | apply below_alloc | apply pw_below_drewN | apply below_drew1) | exact HB.out)⟩
                            · rw [if_neg c29] at H
                              have c29b0 : (!(((rd_T33 x6_3 x7_3).f0) == ((rd_T33 x4_1 x7_3).f0)) || (!((((rd_T33 x6_3 x7_3).f1).toList) == (((rd_T33 x4_1 x7_3).f1).toList)) || (!(((rd_T33 x6_3 x7_3).f2) == ((rd_T33 x4_1 x7_3).f2))))) = false := by simpa using c29
                              clear c29
                              obtain ⟨y332, hy332⟩ : ∃ y_ : List (S33), y_ = (x6_3.set (x7_3 : Int).toNat (⟨(rd_T33 x6_3 x7_3).f0, (⟨#[63]⟩ : ByteArray), (rd_T33 x6_3 x7_3).f2⟩ : S33)) := ⟨_, rfl⟩
                              replace H : (backsteplaw02_LexerSolid.l1 k3 l0 x3_1 x4_1 y332 (wrap64 (x7_3 + 1))) = some r := by first | (rw [hy332]; with_reducible exact H) | (have H2_ := (Option.bind_some _ _).symm.trans H; rw [hy332]; with_reducible exact H2_) | (have H2_ := (Option.bind_some _ _).symm.trans H; with_reducible exact H2_) | with_reducible exact H | (rw [hy332]; exact H) | exact H
                              have Ny332 := Aside0.mk hy332
                              clear hy332
                              have H' := Aside0.mk H
                              clear H
                              obtain ⟨Ao33, co33, eo33⟩ := Kd.R_slice HO_6.out
                              subst eo33
                              have p330 : 0 ≤ (x7_3 : Int) := of_decide_eq_true (by first | (with_reducible assumption) | assumption)
                              have q330 : x7_3 < (x6_3.length : Int) := of_decide_eq_true (by first | (with_reducible assumption) | assumption)
                              obtain ⟨ad330, e330, hx330_0, hx330_1, hx330_2⟩ := at_T33 (Kd.R_reads' HO_6.out).2.2 x7_3 p330 q330
                              cases e330
                              replace p330 := eq_true p330
                              replace q330 := eq_true q330
                              obtain ⟨Ao34, co34, eo34⟩ := Kd.R_slice HO_4.out
                              subst eo34
                              have p331 : 0 ≤ (x7_3 : Int) := of_decide_eq_true (by first | (with_reducible assumption) | assumption)
                              have q331 : x7_3 < (x4_1.length : Int) := of_decide_eq_true (by first | (with_reducible assumption) | assumption)
                              obtain ⟨ad331, e331, hx331_0, hx331_1, hx331_2⟩ := at_T33 (Kd.R_reads' HO_4.out).2.2 x7_3 p331 q331
                              cases e331
                              replace p331 := eq_true p331
                              replace q331 := eq_true q331
                              have p32 : 0 ≤ (x7_3 : Int) := of_decide_eq_true (by first | (with_reducible assumption) | assumption)
                              have q32 : (x7_3 : Int) < ((x6_3.length : Int) : Int) := of_decide_eq_true (by first | (with_reducible assumption) | assumption)
                              obtain ⟨go32, co32, eo32, gb32, gl32, cl32, HG32⟩ := Kd.R_form HO_6.out (by omega)
                              (first | cases eo32 | (injection eo32 with ea_ en_ ec_; (first | subst ea_ | (injection ea_ with ea_; subst ea_)); subst ec_; clear en_))
                              have GB32 := Aside0.mk gb32
                              have GG32 := Aside0.mk HG32
                              clear gb32 gl32 HG32
                              (first | simp only [add_plain] at hx330_0 | skip)
                              (first | simp only [add_plain] at hx330_1 | skip)
                              (first | simp only [add_plain] at hx330_2 | skip)
                              obtain ⟨ce32, hcl32, hM32, hcc32, hfr32⟩ := Kd.R_elem HO_6.out z33 (x7_3 : Int) p32 q32
                              obtain rfl := k33_openM hM32
                              have hx32_0 : wr.cell? ⟨go32, (x7_3 : Int).toNat * 3, none⟩ = some (.int .u8 ((rd_T33 x6_3 x7_3).f0)) := hcc32 0 _ rfl
                              have hx32_1 : wr.cell? ⟨go32, (x7_3 : Int).toNat * 3 + 1, none⟩ = some (.string ((rd_T33 x6_3 x7_3).f1)) := hcc32 1 _ rfl
                              have hx32_2 : wr.cell? ⟨go32, (x7_3 : Int).toNat * 3 + 2, none⟩ = some (.int .i64 ((rd_T33 x6_3 x7_3).f2)) := hcc32 2 _ rfl
                              have hf32_0 : wr.frozen? ⟨go32, (x7_3 : Int).toNat * 3, none⟩ = false := hfr32 0
                              have hf32_1 : wr.frozen? ⟨go32, (x7_3 : Int).toNat * 3 + 1, none⟩ = false := hfr32 1
                              have hf32_2 : wr.frozen? ⟨go32, (x7_3 : Int).toNat * 3 + 2, none⟩ = false := hfr32 2
                              clear hcl32 hcc32 hfr32 hM32
                              replace p32 := eq_true p32
                              replace q32 := eq_true q32
                              have HX35 := Aside0.mk (show Kd.R k33 33 wr w.heap.size (fun k_ => some k_ ≠ (.slice (some ad331) x4_1.length co34 : Value).ownBlock) (.slice (some ⟨go32, 0, none⟩) x6_3.length co33) x6_3 from (by (with_reducible repeat (first | apply Kd.R_alloc | apply Kd.R_drewN | apply Kd.R_drew)); exact HO_6.out))
                              obtain ⟨ce35, hcl35, hM35, hcc35, hfr35⟩ := Kd.R_elem HX35.out z33 (x7_3 : Int) (of_decide_eq_true (by first | (with_reducible assumption) | assumption)) (by have h_ : (x7_3 : Int) < ((x6_3.length : Int) : Int) := of_decide_eq_true (by first | (with_reducible assumption) | assumption); first | exact h_ | (have e_ := (Kd.R_reads' HO_6.out).1; omega) | simpa using h_)
                              obtain rfl := k33_openM hM35
                              have HP35 := Kd.R_seg HX35.out (x7_3 : Int) (of_decide_eq_true (by first | (with_reducible assumption) | assumption)) (by have h_ : (x7_3 : Int) < ((x6_3.length : Int) : Int) := of_decide_eq_true (by first | (with_reducible assumption) | assumption); first | exact h_ | (have e_ := (Kd.R_reads' HO_6.out).1; omega) | simpa using h_) (seg := [.string (⟨#[63]⟩ : ByteArray)]) (j := 1) hcl35 hcc35 (show 2 ≤ 3 from by decide) (x' := (⟨(rd_T33 x6_3 x7_3).f0, (⟨#[63]⟩ : ByteArray), (rd_T33 x6_3 x7_3).f2⟩ : S33)) (k33_mkM _ _ _ (⟨(rd_T33 x6_3 x7_3).f0, (⟨#[63]⟩ : ByteArray), (rd_T33 x6_3 x7_3).f2⟩ : S33) ) (fun _ hk => hk)
                              have hx35_1 := hcc35 1 _ rfl
                              (try simp only [show (k33).sz = 3 from rfl, Nat.mul_one, Nat.add_zero] at hx35_1)
                              have hf35_1 := hfr35 1
                              (try simp only [show (k33).sz = 3 from rfl, Nat.mul_one, Nat.add_zero] at hf35_1)
                              clear hcl35 hcc35 hfr35 hM35
                              go_wp2_with (first | ((with_reducible refine gate_store (t := 9) (p := 85) rfl ?_); (try (rw [drewN_self wr]; generalize hq_ : World.drewN wr _ = wr; have n0_ := Aside0.mk (Kd.R_at hq_ HO_4.out); have n1_ := Aside0.mk (Kd.R_at hq_ HO_6.out); have n2_ := Aside0.mk (below_at hq_ HB.out); clear hq_ HO_4 HO_6 HB; have HO_4 := n0_; have HO_6 := n1_; have HB := n2_; clear n0_ n1_ n2_; (try (have HX35 := Aside0.mk (show Kd.R k33 33 wr w.heap.size (fun k_ => some k_ ≠ (.slice (some ad331) x4_1.length co34 : Value).ownBlock) (.slice (some ⟨go32, 0, none⟩) x6_3.length co33) x6_3 from (by (with_reducible repeat (first | apply Kd.R_alloc | apply Kd.R_drewN | apply Kd.R_drew)); exact HO_6.out)))); (try (obtain ⟨ce35, hcl35, hM35, hcc35, hfr35⟩ := Kd.R_elem HX35.out z33 (x7_3 : Int) (of_decide_eq_true (by first | (with_reducible assumption) | assumption)) (by have h_ : (x7_3 : Int) < ((x6_3.length : Int) : Int) := of_decide_eq_true (by first | (with_reducible assumption) | assumption); first | exact h_ | (have e_ := (Kd.R_reads' HO_6.out).1; omega) | simpa using h_))); (try (obtain rfl := k33_openM hM35)); (try (have HP35 := Kd.R_seg HX35.out (x7_3 : Int) (of_decide_eq_true (by first | (with_reducible assumption) | assumption)) (by have h_ : (x7_3 : Int) < ((x6_3.length : Int) : Int) := of_decide_eq_true (by first | (with_reducible assumption) | assumption); first | exact h_ | (have e_ := (Kd.R_reads' HO_6.out).1; omega) | simpa using h_) (seg := [.string (⟨#[63]⟩ : ByteArray)]) (j := 1) hcl35 hcc35 (show 2 ≤ 3 from by decide) (x' := (⟨(rd_T33 x6_3 x7_3).f0, (⟨#[63]⟩ : ByteArray), (rd_T33 x6_3 x7_3).f2⟩ : S33)) (k33_mkM _ _ _ (⟨(rd_T33 x6_3 x7_3).f0, (⟨#[63]⟩ : ByteArray), (rd_T33 x6_3 x7_3).f2⟩ : S33) ) (fun _ hk => hk))); (try (have hx35_1 := hcc35 1 _ rfl)); (try (try simp only [show (k33).sz = 3 from rfl, Nat.mul_one, Nat.add_zero] at hx35_1)); (try (have hf35_1 := hfr35 1)); (try (try simp only [show (k33).sz = 3 from rfl, Nat.mul_one, Nat.add_zero] at hf35_1)); (try (clear hcl35 hcc35 hfr35 hM35)))); refine store_event (t := 9) (p := 85) (v := ?vo_w36) (w1 := (wr.setCell ⟨go32, (x7_3 : Int).toNat * 3 + 1, none⟩ (.string (⟨#[63]⟩ : ByteArray)))) ?hg ?ho ?hn ?hr ?_; (case ho => rfl); (case hg => rfl); (case hn => rfl); (case hr => first | (go_simp; done) | (go_simp; rfl)); intro w36 hw; have hg : wr.grownBy w36 (some go32) := (by rw [hw]; exact HP35.2); have hp_ : Kd.R k33 33 w36 w.heap.size (fun k_ => some k_ ≠ (.slice (some ad331) x4_1.length co34 : Value).ownBlock) (.slice (some ⟨go32, 0, none⟩) x6_3.length co33) y332 := (by rw [hw, Ny332.out]; exact HP35.1); clear HP35; have n0_ := Aside0.mk (Kd.R_after (v := (.slice (some ⟨go32, 0, none⟩) x6_3.length co33)) (v1 := (.slice (some ⟨go32, 0, none⟩) x6_3.length co33)) (ok := (fun _ => True)) (by (with_reducible repeat (first | apply Kd.R_alloc | apply Kd.R_drewN | apply Kd.R_drew)); exact Kd.R_mono HO_4.out (fun _ hk => ⟨trivial, hk⟩)) hg (.inl rfl)); have n1_ := Aside0.mk (hp_); have n2_ := Aside0.mk ((by rw [hw]; exact below_set (HB.out) GB32.out : Below w.heap.size w w36)); clear HO_4; clear HO_6; clear HB; have HO_4 := n0_; have HO_6 := n1_; have HB := n2_; clear n0_ n1_ n2_; clear hg hw hp_))
                              repeat (go_quiet (first | ((with_reducible refine gate_store (t := 9) (p := 85) rfl ?_); (try (rw [drewN_self wr]; generalize hq_ : World.drewN wr _ = wr; have n0_ := Aside0.mk (Kd.R_at hq_ HO_4.out); have n1_ := Aside0.mk (Kd.R_at hq_ HO_6.out); have n2_ := Aside0.mk (below_at hq_ HB.out); clear hq_ HO_4 HO_6 HB; have HO_4 := n0_; have HO_6 := n1_; have HB := n2_; clear n0_ n1_ n2_; (try (have HX35 := Aside0.mk (show Kd.R k33 33 wr w.heap.size (fun k_ => some k_ ≠ (.slice (some ad331) x4_1.length co34 : Value).ownBlock) (.slice (some ⟨go32, 0, none⟩) x6_3.length co33) x6_3 from (by (with_reducible repeat (first | apply Kd.R_alloc | apply Kd.R_drewN | apply Kd.R_drew)); exact HO_6.out)))); (try (obtain ⟨ce35, hcl35, hM35, hcc35, hfr35⟩ := Kd.R_elem HX35.out z33 (x7_3 : Int) (of_decide_eq_true (by first | (with_reducible assumption) | assumption)) (by have h_ : (x7_3 : Int) < ((x6_3.length : Int) : Int) := of_decide_eq_true (by first | (with_reducible assumption) | assumption); first | exact h_ | (have e_ := (Kd.R_reads' HO_6.out).1; omega) | simpa using h_))); (try (obtain rfl := k33_openM hM35)); (try (have HP35 := Kd.R_seg HX35.out (x7_3 : Int) (of_decide_eq_true (by first | (with_reducible assumption) | assumption)) (by have h_ : (x7_3 : Int) < ((x6_3.length : Int) : Int) := of_decide_eq_true (by first | (with_reducible assumption) | assumption); first | exact h_ | (have e_ := (Kd.R_reads' HO_6.out).1; omega) | simpa using h_) (seg := [.string (⟨#[63]⟩ : ByteArray)]) (j := 1) hcl35 hcc35 (show 2 ≤ 3 from by decide) (x' := (⟨(rd_T33 x6_3 x7_3).f0, (⟨#[63]⟩ : ByteArray), (rd_T33 x6_3 x7_3).f2⟩ : S33)) (k33_mkM _ _ _ (⟨(rd_T33 x6_3 x7_3).f0, (⟨#[63]⟩ : ByteArray), (rd_T33 x6_3 x7_3).f2⟩ : S33) ) (fun _ hk => hk))); (try (have hx35_1 := hcc35 1 _ rfl)); (try (try simp only [show (k33).sz = 3 from rfl, Nat.mul_one, Nat.add_zero] at hx35_1)); (try (have hf35_1 := hfr35 1)); (try (try simp only [show (k33).sz = 3 from rfl, Nat.mul_one, Nat.add_zero] at hf35_1)); (try (clear hcl35 hcc35 hfr35 hM35)))); refine store_event (t := 9) (p := 85) (v := ?vo_w36) (w1 := (wr.setCell ⟨go32, (x7_3 : Int).toNat * 3 + 1, none⟩ (.string (⟨#[63]⟩ : ByteArray)))) ?hg ?ho ?hn ?hr ?_; (case ho => rfl); (case hg => rfl); (case hn => rfl); (case hr => first | (go_simp; done) | (go_simp; rfl)); intro w36 hw; have hg : wr.grownBy w36 (some go32) := (by rw [hw]; exact HP35.2); have hp_ : Kd.R k33 33 w36 w.heap.size (fun k_ => some k_ ≠ (.slice (some ad331) x4_1.length co34 : Value).ownBlock) (.slice (some ⟨go32, 0, none⟩) x6_3.length co33) y332 := (by rw [hw, Ny332.out]; exact HP35.1); clear HP35; have n0_ := Aside0.mk (Kd.R_after (v := (.slice (some ⟨go32, 0, none⟩) x6_3.length co33)) (v1 := (.slice (some ⟨go32, 0, none⟩) x6_3.length co33)) (ok := (fun _ => True)) (by (with_reducible repeat (first | apply Kd.R_alloc | apply Kd.R_drewN | apply Kd.R_drew)); exact Kd.R_mono HO_4.out (fun _ hk => ⟨trivial, hk⟩)) hg (.inl rfl)); have n1_ := Aside0.mk (hp_); have n2_ := Aside0.mk ((by rw [hw]; exact below_set (HB.out) GB32.out : Below w.heap.size w w36)); clear HO_4; clear HO_6; clear HB; have HO_4 := n0_; have HO_6 := n1_; have HB := n2_; clear n0_ n1_ n2_; clear hg hw hp_)); try go_wp2_with (first | ((with_reducible refine gate_store (t := 9) (p := 85) rfl ?_); (try (rw [drewN_self wr]; generalize hq_ : World.drewN wr _ = wr; have n0_ := Aside0.mk (Kd.R_at hq_ HO_4.out); have n1_ := Aside0.mk (Kd.R_at hq_ HO_6.out); have n2_ := Aside0.mk (below_at hq_ HB.out); clear hq_ HO_4 HO_6 HB; have HO_4 := n0_; have HO_6 := n1_; have HB := n2_; clear n0_ n1_ n2_; (try (have HX35 := Aside0.mk (show Kd.R k33 33 wr w.heap.size (fun k_ => some k_ ≠ (.slice (some ad331) x4_1.length co34 : Value).ownBlock) (.slice (some ⟨go32, 0, none⟩) x6_3.length co33) x6_3 from (by (with_reducible repeat (first | apply Kd.R_alloc | apply Kd.R_drewN | apply Kd.R_drew)); exact HO_6.out)))); (try (obtain ⟨ce35, hcl35, hM35, hcc35, hfr35⟩ := Kd.R_elem HX35.out z33 (x7_3 : Int) (of_decide_eq_true (by first | (with_reducible assumption) | assumption)) (by have h_ : (x7_3 : Int) < ((x6_3.length : Int) : Int) := of_decide_eq_true (by first | (with_reducible assumption) | assumption); first | exact h_ | (have e_ := (Kd.R_reads' HO_6.out).1; omega) | simpa using h_))); (try (obtain rfl := k33_openM hM35)); (try (have HP35 := Kd.R_seg HX35.out (x7_3 : Int) (of_decide_eq_true (by first | (with_reducible assumption) | assumption)) (by have h_ : (x7_3 : Int) < ((x6_3.length : Int) : Int) := of_decide_eq_true (by first | (with_reducible assumption) | assumption); first | exact h_ | (have e_ := (Kd.R_reads' HO_6.out).1; omega) | simpa using h_) (seg := [.string (⟨#[63]⟩ : ByteArray)]) (j := 1) hcl35 hcc35 (show 2 ≤ 3 from by decide) (x' := (⟨(rd_T33 x6_3 x7_3).f0, (⟨#[63]⟩ : ByteArray), (rd_T33 x6_3 x7_3).f2⟩ : S33)) (k33_mkM _ _ _ (⟨(rd_T33 x6_3 x7_3).f0, (⟨#[63]⟩ : ByteArray), (rd_T33 x6_3 x7_3).f2⟩ : S33) ) (fun _ hk => hk))); (try (have hx35_1 := hcc35 1 _ rfl)); (try (try simp only [show (k33).sz = 3 from rfl, Nat.mul_one, Nat.add_zero] at hx35_1)); (try (have hf35_1 := hfr35 1)); (try (try simp only [show (k33).sz = 3 from rfl, Nat.mul_one, Nat.add_zero] at hf35_1)); (try (clear hcl35 hcc35 hfr35 hM35)))); refine store_event (t := 9) (p := 85) (v := ?vo_w36) (w1 := (wr.setCell ⟨go32, (x7_3 : Int).toNat * 3 + 1, none⟩ (.string (⟨#[63]⟩ : ByteArray)))) ?hg ?ho ?hn ?hr ?_; (case ho => rfl); (case hg => rfl); (case hn => rfl); (case hr => first | (go_simp; done) | (go_simp; rfl)); intro w36 hw; have hg : wr.grownBy w36 (some go32) := (by rw [hw]; exact HP35.2); have hp_ : Kd.R k33 33 w36 w.heap.size (fun k_ => some k_ ≠ (.slice (some ad331) x4_1.length co34 : Value).ownBlock) (.slice (some ⟨go32, 0, none⟩) x6_3.length co33) y332 := (by rw [hw, Ny332.out]; exact HP35.1); clear HP35; have n0_ := Aside0.mk (Kd.R_after (v := (.slice (some ⟨go32, 0, none⟩) x6_3.length co33)) (v1 := (.slice (some ⟨go32, 0, none⟩) x6_3.length co33)) (ok := (fun _ => True)) (by (with_reducible repeat (first | apply Kd.R_alloc | apply Kd.R_drewN | apply Kd.R_drew)); exact Kd.R_mono HO_4.out (fun _ hk => ⟨trivial, hk⟩)) hg (.inl rfl)); have n1_ := Aside0.mk (hp_); have n2_ := Aside0.mk ((by rw [hw]; exact below_set (HB.out) GB32.out : Below w.heap.size w w36)); clear HO_4; clear HO_6; clear HB; have HO_4 := n0_; have HO_6 := n1_; have HB := n2_; clear n0_ n1_ n2_; clear hg hw hp_)))
                              go_roundg k3
                              case measure => have := HK1.out; have := HJ15.out; have := HK3.out; omega
                              case rel => exact ⟨(y332), (wrap64 (x7_3 + 1)), (by first | rfl | (simp; done) | (simp [*]; done)), H', ⟨by have := HK1.out; have := HJ15.out; have := HK3.out; omega⟩, ⟨by (with_reducible repeat (first | apply Kd.R_alloc | apply Kd.R_drewN | apply Kd.R_drew)); exact Kd.R_mono HO_4.out (fun _ hk => hk.2)⟩, ⟨by (with_reducible repeat (first | apply Kd.R_alloc | apply Kd.R_drewN | apply Kd.R_drew)); exact HO_6.out⟩, ⟨by repeat (first | (with_reducible first | exact HB.out | apply below_alloc | apply pw_below_drewN | apply below_drew1) | exact HB.out)⟩⟩
                          · rw [if_neg c28] at H
                            exact absurd H (by simp)
                        · rw [if_neg c27] at H
                          exact absurd H (by simp)
                      · rw [if_neg c26] at H
                        have c26b0 : decide (x7_3 < (x6_3.length : Int)) = false := decide_eq_false c26
                        clear c26
                        replace H := Option.bind_eq_some_iff.mp H
                        obtain ⟨t333, A370, H⟩ := H
                        replace H : (some (t333.toList == x3_1.toList)) = some r := H
                        have A37 := Aside0.mk A370
                        clear A370
                        obtain rfl := Option.some.inj H
                        obtain ⟨Ao38, co38, eo38⟩ := Kd.R_slice HO_6.out
                        subst eo38
                        go_wp2_with (first | (go_at_call 22; (with_reducible refine (lexer_Join.calls _ _ l0 t333 _ ?side1 ?side2 A37.out).mono ?_); (case side1 => repeat (first | exact (Kd.C_below HR0.out HB.out) | (with_reducible refine Kd.C_alloc ?_ _) | (with_reducible refine Kd.C_drewN ?_ _) | (with_reducible refine Kd.C_drew ?_))); (case side2 => exact HC0.out); rintro e w39 ⟨rfl, hb⟩; have n0_ := Aside0.mk (Kd.R_below (by (with_reducible repeat (first | apply Kd.R_alloc | apply Kd.R_drewN | apply Kd.R_drew)); exact HO_4.out) hb); have n1_ := Aside0.mk (Kd.R_below (by (with_reducible repeat (first | apply Kd.R_alloc | apply Kd.R_drewN | apply Kd.R_drew)); exact HO_6.out) hb); have n2_ := Aside0.mk (below_step (by repeat (first | (with_reducible first | exact HB.out | apply below_alloc | apply pw_below_drewN | apply below_drew1) | exact HB.out)) hb); clear HO_4; clear HO_6; clear HB; have HO_4 := n0_; have HO_6 := n1_; have HB := n2_; clear n0_ n1_ n2_; (try clear hb); (try clear hb2); (try clear hk); (try clear hi)))
                        repeat (go_quiet (first | (go_at_call 22; (with_reducible refine (lexer_Join.calls _ _ l0 t333 _ ?side1 ?side2 A37.out).mono ?_); (case side1 => repeat (first | exact (Kd.C_below HR0.out HB.out) | (with_reducible refine Kd.C_alloc ?_ _) | (with_reducible refine Kd.C_drewN ?_ _) | (with_reducible refine Kd.C_drew ?_))); (case side2 => exact HC0.out); rintro e w39 ⟨rfl, hb⟩; have n0_ := Aside0.mk (Kd.R_below (by (with_reducible repeat (first | apply Kd.R_alloc | apply Kd.R_drewN | apply Kd.R_drew)); exact HO_4.out) hb); have n1_ := Aside0.mk (Kd.R_below (by (with_reducible repeat (first | apply Kd.R_alloc | apply Kd.R_drewN | apply Kd.R_drew)); exact HO_6.out) hb); have n2_ := Aside0.mk (below_step (by repeat (first | (with_reducible first | exact HB.out | apply below_alloc | apply pw_below_drewN | apply below_drew1) | exact HB.out)) hb); clear HO_4; clear HO_6; clear HB; have HO_4 := n0_; have HO_6 := n1_; have HB := n2_; clear n0_ n1_ n2_; (try clear hb); (try clear hb2); (try clear hk); (try clear hi))); try go_wp2_with (first | (go_at_call 22; (with_reducible refine (lexer_Join.calls _ _ l0 t333 _ ?side1 ?side2 A37.out).mono ?_); (case side1 => repeat (first | exact (Kd.C_below HR0.out HB.out) | (with_reducible refine Kd.C_alloc ?_ _) | (with_reducible refine Kd.C_drewN ?_ _) | (with_reducible refine Kd.C_drew ?_))); (case side2 => exact HC0.out); rintro e w39 ⟨rfl, hb⟩; have n0_ := Aside0.mk (Kd.R_below (by (with_reducible repeat (first | apply Kd.R_alloc | apply Kd.R_drewN | apply Kd.R_drew)); exact HO_4.out) hb); have n1_ := Aside0.mk (Kd.R_below (by (with_reducible repeat (first | apply Kd.R_alloc | apply Kd.R_drewN | apply Kd.R_drew)); exact HO_6.out) hb); have n2_ := Aside0.mk (below_step (by repeat (first | (with_reducible first | exact HB.out | apply below_alloc | apply pw_below_drewN | apply below_drew1) | exact HB.out)) hb); clear HO_4; clear HO_6; clear HB; have HO_4 := n0_; have HO_6 := n1_; have HB := n2_; clear n0_ n1_ n2_; (try clear hb); (try clear hb2); (try clear hk); (try clear hi))))
                        go_ret
                        exact ⟨by first | rfl | (simp [errW_none, errW_some] <;> rfl) | (simp [*, errW_none, errW_some] <;> rfl), by repeat (first | (with_reducible first | exact HB.out | apply below_alloc | apply pw_below_drewN | apply below_drew1) | exact HB.out)⟩
  · replace c3 := Bool.eq_false_iff.mpr c3
    subst c3
    have H1 : (some false) = some r := by rw [if_neg (show ¬ (false = true) by decide)] at H; exact H
    clear H
    have H := H1
    clear H1
    obtain rfl := Option.some.inj H
    go_enter Tryd.func11, Tryd.ntmps11
    go_wp2_with (first | (go_at_call 12; (with_reducible refine (backsteplaw02_awake.calls  false _ (Tab.below HTAB.out (by repeat (first | (with_reducible first | exact HB.out | exact Below.refl _ _ | apply below_alloc | apply pw_below_drewN | apply below_drew1) | exact HB.out))) A2.out).mono ?_); rintro e w40 ⟨rfl, hb⟩; have n0_ := Aside0.mk (below_step (by repeat (first | (with_reducible first | exact HB.out | apply below_alloc | apply pw_below_drewN | apply below_drew1) | exact HB.out)) hb); clear HB; have HB := n0_; clear n0_; (try clear hb); (try clear hb2); (try clear hk); (try clear hi)))
    repeat (go_quiet (first | (go_at_call 12; (with_reducible refine (backsteplaw02_awake.calls  false _ (Tab.below HTAB.out (by repeat (first | (with_reducible first | exact HB.out | exact Below.refl _ _ | apply below_alloc | apply pw_below_drewN | apply below_drew1) | exact HB.out))) A2.out).mono ?_); rintro e w40 ⟨rfl, hb⟩; have n0_ := Aside0.mk (below_step (by repeat (first | (with_reducible first | exact HB.out | apply below_alloc | apply pw_below_drewN | apply below_drew1) | exact HB.out)) hb); clear HB; have HB := n0_; clear n0_; (try clear hb); (try clear hb2); (try clear hk); (try clear hi))); try go_wp2_with (first | (go_at_call 12; (with_reducible refine (backsteplaw02_awake.calls  false _ (Tab.below HTAB.out (by repeat (first | (with_reducible first | exact HB.out | exact Below.refl _ _ | apply below_alloc | apply pw_below_drewN | apply below_drew1) | exact HB.out))) A2.out).mono ?_); rintro e w40 ⟨rfl, hb⟩; have n0_ := Aside0.mk (below_step (by repeat (first | (with_reducible first | exact HB.out | apply below_alloc | apply pw_below_drewN | apply below_drew1) | exact HB.out)) hb); clear HB; have HB := n0_; clear n0_; (try clear hb); (try clear hb2); (try clear hk); (try clear hi))))
    go_ret
    exact ⟨by first | rfl | (simp [errW_none, errW_some] <;> rfl) | (simp [*, errW_none, errW_some] <;> rfl), by repeat (first | (with_reducible first | exact HB.out | apply below_alloc | apply pw_below_drewN | apply below_drew1) | exact HB.out)⟩

end Go.Proofs.YtapkfblkghoknaaDoor.PX
