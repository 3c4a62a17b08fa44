-- Written by wip/tools/weave.py out of a printing program's text: the contracts of Lex, Name, Keyword and Join, and the table's premise, are ours.
import Derived.Test.YtapkfblkghoknaaDoorPX0
import Derived.Test.YtapkfblkghoknaaDoorPX4
import Derived.Test.YtapkfblkghoknaaDoorPX8
import Derived.Test.YtapkfblkghoknaaDoorPX18
namespace Go.Proofs.YtapkfblkghoknaaDoor.PX
open Go.RowKit Go.Proofs.YtapkfblkghoknaaDoorW.PrintWords Go.Proofs.YtapkfblkghoknaaDoorW.PrintLast Go.Proofs.YtapkfblkghoknaaDoorW.PrintMore
attribute [local go_sem] max2_int min2_int max_two min_two max_three min_three max_four min_four   -- for this text's walks alone
set_option linter.unusedVariables false
set_option linter.unusedSimpArgs false

/-! ### backstepref02_Name: function 18 -/
def backstepref02_Name.f (k : Nat) (a0 : ByteArray) : Option (Bool) := (backstepref02_Kind.f k a0).bind fun t255 => (if t255 = 1 then (if (a0.size : Int) ≤ 16 then ((backstepref02_Keywords.f).bind fun t256 => ((backstepref02_In.f k t256 a0).bind fun t259 => (some (!t259)))) else (some false)) else (some false))
theorem backstepref02_Name.mono : ∀ a0 k, LeO (backstepref02_Name.f k a0) (backstepref02_Name.f (k + 1) a0) := by
  intro a0 k
  unfold backstepref02_Name.f
  repeat' first
      | (with_reducible exact backstepref02_In.mono _ _ _)
      | (with_reducible exact backstepref02_Kind.mono _ _)
      | (with_reducible exact LeO.refl _)
      | (with_reducible exact LeO.none _)
      | (with_reducible refine LeO.ite ?_ ?_)
      | (with_reducible refine LeO.bind ?_ (fun _ => ?_))
      | exact backstepref02_In.mono _ _ _
      | exact backstepref02_Kind.mono _ _
      | exact LeO.none _
      | refine LeO.ite ?_ ?_
      | refine LeO.bind ?_ (fun _ => ?_)
set_option maxHeartbeats 8000000 in
set_option maxRecDepth 100000 in
theorem backstepref02_Name.calls (k : Nat) (a0 : ByteArray) (r : Bool) (w : World) (h : backstepref02_Name.f k a0 = some r) :
    Calls Tryd.prog 18 #[.string a0] w fun e w' => e = .returned (.bool r) ∧ Below w.heap.size w w' := by
  have HB := Aside0.mk (Below.refl w.heap.size w)
  have H : ((backstepref02_Kind.f k a0).bind fun t255 => (if t255 = 1 then (if (a0.size : Int) ≤ 16 then ((backstepref02_Keywords.f).bind fun t256 => ((backstepref02_In.f k t256 a0).bind fun t259 => (some (!t259)))) else (some false)) else (some false))) = some r := h
  clear h
  replace H := Option.bind_eq_some_iff.mp H
  obtain ⟨t255, A20, H⟩ := H
  replace H : (if t255 = 1 then (if (a0.size : Int) ≤ 16 then ((backstepref02_Keywords.f).bind fun t256 => ((backstepref02_In.f k t256 a0).bind fun t259 => (some (!t259)))) else (some false)) else (some false)) = some r := H
  have A2 := Aside0.mk A20
  clear A20
  by_cases c3 : t255 = 1
  · rw [if_pos c3] at H
    have c3b0 : (t255 == 1) = true := beq_iff_eq.mpr c3
    have c3b1 : (t255 != 1) = false := bne_eq_false_iff_eq.mpr c3
    clear c3
    by_cases c4 : (a0.size : Int) ≤ 16
    · rw [if_pos c4] at H
      have c4b0 : decide ((a0.size : Int) ≤ 16) = true := decide_eq_true c4
      have c4b1 : decide (a0.size ≤ 16) = true := decide_eq_true (by omega)
      clear c4
      replace H := Option.bind_eq_some_iff.mp H
      obtain ⟨t256, A50, H⟩ := H
      replace H : ((backstepref02_In.f k t256 a0).bind fun t259 => (some (!t259))) = some r := H
      have A5 := Aside0.mk A50
      clear A50
      replace H := Option.bind_eq_some_iff.mp H
      obtain ⟨t259, A60, H⟩ := H
      replace H : (some (!t259)) = some r := H
      have A6 := Aside0.mk A60
      clear A60
      obtain rfl := Option.some.inj H
      go_enter Tryd.func18, Tryd.ntmps18
      go_wp2_with (first | ((with_reducible refine gate_callee (f := 24) rfl ?_); refine goesL_ (some 4) rfl rfl Tryd.func24 (by kernel_rfl) rfl #[.string a0] rfl (by (try simp only [List.map_toArray, List.map_cons, List.map_nil]); first | done | rfl | (simp only [List.length_drop, List.length_take]; rfl)) ?_; (with_reducible refine (backstepref02_Kind.calls k a0 t255 _ A2.out).mono ?_); rintro e w7 ⟨rfl, hb⟩; refine ⟨_, rfl, ?_⟩; have n0_ := Aside0.mk (below_step (by repeat (first | (with_reducible first | exact HB.out | apply below_alloc | apply pw_below_drewN | apply below_drew1) | exact HB.out)) hb); clear HB; have HB := n0_; clear n0_; (try clear hb); (try clear hb2); (try clear hk); (try clear hi)) | (go_at_call 21; (with_reducible refine (backstepref02_Keywords.calls  t256 _ A5.out).mono ?_); rintro e w8 ⟨v257, rfl, ho0, hb⟩; have n0_ := Aside0.mk (Kd.R_lower ho0 (below_size (by repeat (first | (with_reducible first | exact HB.out | apply below_alloc | apply pw_below_drewN | apply below_drew1) | exact HB.out)))); have n1_ := Aside0.mk (below_step (by repeat (first | (with_reducible first | exact HB.out | apply below_alloc | apply pw_below_drewN | apply below_drew1) | exact HB.out)) hb); clear HB; have HO258 := n0_; have HB := n1_; clear n0_ n1_; (try clear hb); (try clear hb2); (try clear hk); (try clear hi); (try clear ho0); obtain ⟨Ao9, co9, eo9⟩ := Kd.R_slice HO258.out; subst eo9) | (go_at_call 20; (with_reducible refine (backstepref02_In.calls k _ _ t256 a0 t259 _ ?side1 ?side2 A6.out).mono ?_); (case side1 => repeat (first | exact (Kd.R_reads' HO258.out).2.2 | (with_reducible refine Kd.C_alloc ?_ _) | (with_reducible refine Kd.C_drewN ?_ _) | (with_reducible refine Kd.C_drew ?_))); (case side2 => exact (Kd.R_reads' HO258.out).2.1); rintro e w' ⟨rfl, ⟨nd, rfl⟩⟩))
      go_ret
      exact ⟨by first | rfl | (simp [errW_none, errW_some] <;> rfl) | (simp [*, errW_none, errW_some] <;> rfl), by repeat (first | (with_reducible first | exact HB.out | apply below_alloc | apply pw_below_drewN | apply below_drew1) | exact HB.out)⟩
    · rw [if_neg c4] at H
      have c4b0 : decide ((a0.size : Int) ≤ 16) = false := decide_eq_false c4
      have c4b1 : decide (a0.size ≤ 16) = false := decide_eq_false (by omega)
      clear c4
      obtain rfl := Option.some.inj H
      go_enter Tryd.func18, Tryd.ntmps18
      go_wp2_with (first | ((with_reducible refine gate_callee (f := 24) rfl ?_); refine goesL_ (some 4) rfl rfl Tryd.func24 (by kernel_rfl) rfl #[.string a0] rfl (by (try simp only [List.map_toArray, List.map_cons, List.map_nil]); first | done | rfl | (simp only [List.length_drop, List.length_take]; rfl)) ?_; (with_reducible refine (backstepref02_Kind.calls k a0 t255 _ A2.out).mono ?_); rintro e w10 ⟨rfl, hb⟩; refine ⟨_, rfl, ?_⟩; have n0_ := Aside0.mk (below_step (by repeat (first | (with_reducible first | exact HB.out | apply below_alloc | apply pw_below_drewN | apply below_drew1) | exact HB.out)) hb); clear HB; have HB := n0_; clear n0_; (try clear hb); (try clear hb2); (try clear hk); (try clear hi)))
      go_ret
      exact ⟨by first | rfl | (simp [errW_none, errW_some] <;> rfl) | (simp [*, errW_none, errW_some] <;> rfl), by repeat (first | (with_reducible first | exact HB.out | apply below_alloc | apply pw_below_drewN | apply below_drew1) | exact HB.out)⟩
  · rw [if_neg c3] at H
    have c3b0 : (t255 == 1) = false := beq_eq_false_iff_ne.mpr c3
    have c3b1 : (t255 != 1) = true := bne_iff_ne.mpr c3
    obtain rfl := Option.some.inj H
    go_enter Tryd.func18, Tryd.ntmps18
    go_wp2_with (first | ((with_reducible refine gate_callee (f := 24) rfl ?_); refine goesL_ (some 4) rfl rfl Tryd.func24 (by kernel_rfl) rfl #[.string a0] rfl (by (try simp only [List.map_toArray, List.map_cons, List.map_nil]); first | done | rfl | (simp only [List.length_drop, List.length_take]; rfl)) ?_; (with_reducible refine (backstepref02_Kind.calls k a0 t255 _ A2.out).mono ?_); rintro e w11 ⟨rfl, hb⟩; refine ⟨_, rfl, ?_⟩; have n0_ := Aside0.mk (below_step (by repeat (first | (with_reducible first | exact HB.out | apply below_alloc | apply pw_below_drewN | apply below_drew1) | exact HB.out)) hb); clear HB; have HB := n0_; clear n0_; (try clear hb); (try clear hb2); (try clear hk); (try clear hi)))
    go_ret
    exact ⟨by first | rfl | (simp [errW_none, errW_some] <;> rfl) | (simp [*, errW_none, errW_some] <;> rfl), by repeat (first | (with_reducible first | exact HB.out | apply below_alloc | apply pw_below_drewN | apply below_drew1) | exact HB.out)⟩

end Go.Proofs.YtapkfblkghoknaaDoor.PX
