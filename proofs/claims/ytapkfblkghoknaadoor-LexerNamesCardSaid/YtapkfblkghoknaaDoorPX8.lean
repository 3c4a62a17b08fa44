-- Written by wip/tools/weave.py out of a printing program's text: the contracts of Lex, Name, Keyword and Join, and the table's premise, are ours.
import Derived.Test.YtapkfblkghoknaaDoorPX0
import Derived.Test.YtapkfblkghoknaaDoorPX4
import Derived.Test.YtapkfblkghoknaaDoorPX5
import Derived.Test.YtapkfblkghoknaaDoorPX6
import Derived.Test.YtapkfblkghoknaaDoorPX7
namespace Go.Proofs.YtapkfblkghoknaaDoor.PX
open Go.RowKit Go.Proofs.YtapkfblkghoknaaDoorW.PrintWords Go.Proofs.YtapkfblkghoknaaDoorW.PrintLast Go.Proofs.YtapkfblkghoknaaDoorW.PrintMore
attribute [local go_sem] max2_int min2_int max_two min_two max_three min_three max_four min_four   -- for this text's walks alone
set_option linter.unusedVariables false
set_option linter.unusedSimpArgs false

/-! ### backstepref02_Kind: function 24 -/
def backstepref02_Kind.l0 : Nat → ByteArray → Bool → Bool → Bool → Bool → Int → Option (Int)
  | 0, _, _, _, _, _, _ => none
  | k + 1, x0, x3, x4, x5, x6, x7 => if x7 < (x0.size : Int) then (if 0 ≤ x7 then (if x3 = true then ((backstepref02_letter.f (bt x0 x7)).bind fun t126 => (if t126 = true then (if x4 = true then ((backstepref02_digit.f (bt x0 x7)).bind fun t127 => (if x5 = true then (if (bt x0 x7) = 32 then (if x6 = true then (backstepref02_Kind.l0 k x0 true t127 true ((bt x0 x7) != 10) (wrap64 (x7 + 1))) else (backstepref02_Kind.l0 k x0 true t127 true false (wrap64 (x7 + 1)))) else (if (bt x0 x7) = 9 then (if x6 = true then (backstepref02_Kind.l0 k x0 true t127 true ((bt x0 x7) != 10) (wrap64 (x7 + 1))) else (backstepref02_Kind.l0 k x0 true t127 true false (wrap64 (x7 + 1)))) else (if (bt x0 x7) = 13 then (if x6 = true then (backstepref02_Kind.l0 k x0 true t127 true ((bt x0 x7) != 10) (wrap64 (x7 + 1))) else (backstepref02_Kind.l0 k x0 true t127 true false (wrap64 (x7 + 1)))) else (if x6 = true then (backstepref02_Kind.l0 k x0 true t127 ((bt x0 x7) == 10) ((bt x0 x7) != 10) (wrap64 (x7 + 1))) else (backstepref02_Kind.l0 k x0 true t127 ((bt x0 x7) == 10) false (wrap64 (x7 + 1))))))) else (if x6 = true then (backstepref02_Kind.l0 k x0 true t127 false ((bt x0 x7) != 10) (wrap64 (x7 + 1))) else (backstepref02_Kind.l0 k x0 true t127 false false (wrap64 (x7 + 1)))))) else (if x5 = true then (if (bt x0 x7) = 32 then (if x6 = true then (backstepref02_Kind.l0 k x0 true false true ((bt x0 x7) != 10) (wrap64 (x7 + 1))) else (backstepref02_Kind.l0 k x0 true false true false (wrap64 (x7 + 1)))) else (if (bt x0 x7) = 9 then (if x6 = true then (backstepref02_Kind.l0 k x0 true false true ((bt x0 x7) != 10) (wrap64 (x7 + 1))) else (backstepref02_Kind.l0 k x0 true false true false (wrap64 (x7 + 1)))) else (if (bt x0 x7) = 13 then (if x6 = true then (backstepref02_Kind.l0 k x0 true false true ((bt x0 x7) != 10) (wrap64 (x7 + 1))) else (backstepref02_Kind.l0 k x0 true false true false (wrap64 (x7 + 1)))) else (if x6 = true then (backstepref02_Kind.l0 k x0 true false ((bt x0 x7) == 10) ((bt x0 x7) != 10) (wrap64 (x7 + 1))) else (backstepref02_Kind.l0 k x0 true false ((bt x0 x7) == 10) false (wrap64 (x7 + 1))))))) else (if x6 = true then (backstepref02_Kind.l0 k x0 true false false ((bt x0 x7) != 10) (wrap64 (x7 + 1))) else (backstepref02_Kind.l0 k x0 true false false false (wrap64 (x7 + 1)))))) else ((backstepref02_digit.f (bt x0 x7)).bind fun t128 => (if x4 = true then ((backstepref02_digit.f (bt x0 x7)).bind fun t129 => (if x5 = true then (if (bt x0 x7) = 32 then (if x6 = true then (backstepref02_Kind.l0 k x0 t128 t129 true ((bt x0 x7) != 10) (wrap64 (x7 + 1))) else (backstepref02_Kind.l0 k x0 t128 t129 true false (wrap64 (x7 + 1)))) else (if (bt x0 x7) = 9 then (if x6 = true then (backstepref02_Kind.l0 k x0 t128 t129 true ((bt x0 x7) != 10) (wrap64 (x7 + 1))) else (backstepref02_Kind.l0 k x0 t128 t129 true false (wrap64 (x7 + 1)))) else (if (bt x0 x7) = 13 then (if x6 = true then (backstepref02_Kind.l0 k x0 t128 t129 true ((bt x0 x7) != 10) (wrap64 (x7 + 1))) else (backstepref02_Kind.l0 k x0 t128 t129 true false (wrap64 (x7 + 1)))) else (if x6 = true then (backstepref02_Kind.l0 k x0 t128 t129 ((bt x0 x7) == 10) ((bt x0 x7) != 10) (wrap64 (x7 + 1))) else (backstepref02_Kind.l0 k x0 t128 t129 ((bt x0 x7) == 10) false (wrap64 (x7 + 1))))))) else (if x6 = true then (backstepref02_Kind.l0 k x0 t128 t129 false ((bt x0 x7) != 10) (wrap64 (x7 + 1))) else (backstepref02_Kind.l0 k x0 t128 t129 false false (wrap64 (x7 + 1)))))) else (if x5 = true then (if (bt x0 x7) = 32 then (if x6 = true then (backstepref02_Kind.l0 k x0 t128 false true ((bt x0 x7) != 10) (wrap64 (x7 + 1))) else (backstepref02_Kind.l0 k x0 t128 false true false (wrap64 (x7 + 1)))) else (if (bt x0 x7) = 9 then (if x6 = true then (backstepref02_Kind.l0 k x0 t128 false true ((bt x0 x7) != 10) (wrap64 (x7 + 1))) else (backstepref02_Kind.l0 k x0 t128 false true false (wrap64 (x7 + 1)))) else (if (bt x0 x7) = 13 then (if x6 = true then (backstepref02_Kind.l0 k x0 t128 false true ((bt x0 x7) != 10) (wrap64 (x7 + 1))) else (backstepref02_Kind.l0 k x0 t128 false true false (wrap64 (x7 + 1)))) else (if x6 = true then (backstepref02_Kind.l0 k x0 t128 false ((bt x0 x7) == 10) ((bt x0 x7) != 10) (wrap64 (x7 + 1))) else (backstepref02_Kind.l0 k x0 t128 false ((bt x0 x7) == 10) false (wrap64 (x7 + 1))))))) else (if x6 = true then (backstepref02_Kind.l0 k x0 t128 false false ((bt x0 x7) != 10) (wrap64 (x7 + 1))) else (backstepref02_Kind.l0 k x0 t128 false false false (wrap64 (x7 + 1))))))))) else (if x4 = true then ((backstepref02_digit.f (bt x0 x7)).bind fun t130 => (if x5 = true then (if (bt x0 x7) = 32 then (if x6 = true then (backstepref02_Kind.l0 k x0 false t130 true ((bt x0 x7) != 10) (wrap64 (x7 + 1))) else (backstepref02_Kind.l0 k x0 false t130 true false (wrap64 (x7 + 1)))) else (if (bt x0 x7) = 9 then (if x6 = true then (backstepref02_Kind.l0 k x0 false t130 true ((bt x0 x7) != 10) (wrap64 (x7 + 1))) else (backstepref02_Kind.l0 k x0 false t130 true false (wrap64 (x7 + 1)))) else (if (bt x0 x7) = 13 then (if x6 = true then (backstepref02_Kind.l0 k x0 false t130 true ((bt x0 x7) != 10) (wrap64 (x7 + 1))) else (backstepref02_Kind.l0 k x0 false t130 true false (wrap64 (x7 + 1)))) else (if x6 = true then (backstepref02_Kind.l0 k x0 false t130 ((bt x0 x7) == 10) ((bt x0 x7) != 10) (wrap64 (x7 + 1))) else (backstepref02_Kind.l0 k x0 false t130 ((bt x0 x7) == 10) false (wrap64 (x7 + 1))))))) else (if x6 = true then (backstepref02_Kind.l0 k x0 false t130 false ((bt x0 x7) != 10) (wrap64 (x7 + 1))) else (backstepref02_Kind.l0 k x0 false t130 false false (wrap64 (x7 + 1)))))) else (if x5 = true then (if (bt x0 x7) = 32 then (if x6 = true then (backstepref02_Kind.l0 k x0 false false true ((bt x0 x7) != 10) (wrap64 (x7 + 1))) else (backstepref02_Kind.l0 k x0 false false true false (wrap64 (x7 + 1)))) else (if (bt x0 x7) = 9 then (if x6 = true then (backstepref02_Kind.l0 k x0 false false true ((bt x0 x7) != 10) (wrap64 (x7 + 1))) else (backstepref02_Kind.l0 k x0 false false true false (wrap64 (x7 + 1)))) else (if (bt x0 x7) = 13 then (if x6 = true then (backstepref02_Kind.l0 k x0 false false true ((bt x0 x7) != 10) (wrap64 (x7 + 1))) else (backstepref02_Kind.l0 k x0 false false true false (wrap64 (x7 + 1)))) else (if x6 = true then (backstepref02_Kind.l0 k x0 false false ((bt x0 x7) == 10) ((bt x0 x7) != 10) (wrap64 (x7 + 1))) else (backstepref02_Kind.l0 k x0 false false ((bt x0 x7) == 10) false (wrap64 (x7 + 1))))))) else (if x6 = true then (backstepref02_Kind.l0 k x0 false false false ((bt x0 x7) != 10) (wrap64 (x7 + 1))) else (backstepref02_Kind.l0 k x0 false false false false (wrap64 (x7 + 1))))))) else (none)) else (if x3 = true then (some 1) else (if x4 = true then (some 2) else ((backstepref02_Signs.f).bind fun t131 => ((backstepref02_In.f k t131 x0).bind fun t134 => (if t134 = true then (some 3) else (if x5 = true then (some 4) else (if x6 = true then (some 5) else (some 0))))))))
def backstepref02_Kind.f (k : Nat) (a0 : ByteArray) : Option (Int) := if a0.toList = ([] : List UInt8) then (some 0) else (if 0 < (a0.size : Int) then ((backstepref02_letter.f (bt a0 0)).bind fun t125 => (backstepref02_Kind.l0 k a0 t125 true true ((bt a0 0) == 35) 0)) else (none))
theorem backstepref02_Kind.mono_l : ∀ k, (∀ y0 y1 y2 y3 y4 y5, LeO (backstepref02_Kind.l0 k y0 y1 y2 y3 y4 y5) (backstepref02_Kind.l0 (k + 1) y0 y1 y2 y3 y4 y5))
  | 0 => fun _ _ _ _ _ _ r h => by simp [backstepref02_Kind.l0] at h
  | k + 1 => by
    have ih0 := backstepref02_Kind.mono_l k
    · intro y0 y1 y2 y3 y4 y5
      unfold backstepref02_Kind.l0
      repeat' first
      | (with_reducible exact ih0 _ _ _ _ _ _)
      | (with_reducible exact backstepref02_In.mono _ _ _)
      | (with_reducible exact LeO.refl _)
      | (with_reducible exact LeO.none _)
      | (with_reducible refine LeO.ite ?_ ?_)
      | (with_reducible refine LeO.bind ?_ (fun _ => ?_))
      | exact ih0 _ _ _ _ _ _
      | exact backstepref02_In.mono _ _ _
      | exact LeO.none _
      | refine LeO.ite ?_ ?_
      | refine LeO.bind ?_ (fun _ => ?_)
theorem backstepref02_Kind.mono : ∀ a0 k, LeO (backstepref02_Kind.f k a0) (backstepref02_Kind.f (k + 1) a0) := by
  intro a0 k
  have ih0 := backstepref02_Kind.mono_l k
  unfold backstepref02_Kind.f
  repeat' first
      | (with_reducible exact ih0 _ _ _ _ _ _)
      | (with_reducible exact backstepref02_In.mono _ _ _)
      | (with_reducible exact LeO.refl _)
      | (with_reducible exact LeO.none _)
      | (with_reducible refine LeO.ite ?_ ?_)
      | (with_reducible refine LeO.bind ?_ (fun _ => ?_))
      | exact ih0 _ _ _ _ _ _
      | exact backstepref02_In.mono _ _ _
      | exact LeO.none _
      | refine LeO.ite ?_ ?_
      | refine LeO.bind ?_ (fun _ => ?_)
set_option maxHeartbeats 8000000 in
set_option maxRecDepth 100000 in
theorem backstepref02_Kind.calls (k : Nat) (a0 : ByteArray) (r : Int) (w : World) (h : backstepref02_Kind.f k a0 = some r) :
    Calls Tryd.prog 24 #[.string a0] w fun e w' => e = .returned (.int .u8 r) ∧ Below w.heap.size w w' := by
  have HB := Aside0.mk (Below.refl w.heap.size w)
  have H : (if a0.toList = ([] : List UInt8) then (some 0) else (if 0 < (a0.size : Int) then ((backstepref02_letter.f (bt a0 0)).bind fun t125 => (backstepref02_Kind.l0 k a0 t125 true true ((bt a0 0) == 35) 0)) else (none))) = some r := h
  clear h
  by_cases c2 : a0.toList = ([] : List UInt8)
  · rw [if_pos c2] at H
    have c2b0 : (a0.toList == ([] : List UInt8)) = true := beq_iff_eq.mpr c2
    have c2b1 : (a0.toList != ([] : List UInt8)) = false := bne_eq_false_iff_eq.mpr c2
    clear c2
    obtain rfl := Option.some.inj H
    go_enter Tryd.func24, Tryd.ntmps24
    go_wp2
    repeat (go_quiet (fail); try go_wp2)
    go_ret
    exact ⟨by first | rfl | (simp [errW_none, errW_some] <;> rfl) | (simp [*, errW_none, errW_some] <;> rfl), by repeat (first | (with_reducible first | exact HB.out | apply below_alloc | apply pw_below_drewN | apply below_drew1) | exact HB.out)⟩
  · rw [if_neg c2] at H
    have c2b0 : (a0.toList == ([] : List UInt8)) = false := beq_eq_false_iff_ne.mpr c2
    have c2b1 : (a0.toList != ([] : List UInt8)) = true := bne_iff_ne.mpr c2
    by_cases c3 : 0 < (a0.size : Int)
    · rw [if_pos c3] at H
      have c3b0 : decide (0 < (a0.size : Int)) = true := decide_eq_true c3
      have c3b1 : decide (0 < a0.size) = true := decide_eq_true (by omega)
      clear c3
      replace H := Option.bind_eq_some_iff.mp H
      obtain ⟨t125, A50, H⟩ := H
      replace H : (backstepref02_Kind.l0 k a0 t125 true true ((bt a0 0) == 35) 0) = some r := H
      have A5 := Aside0.mk A50
      clear A50
      have H' := Aside0.mk H
      clear H
      have p4 : 0 ≤ (0 : Int) := (by omega)
      have q4 : 0 < a0.size := (by have : (0 : Int) < (a0.size : Int) := of_decide_eq_true (by first | (with_reducible assumption) | assumption); omega)
      have hx4 : ∀ h : 0 < a0.size, ((a0[0]'h).toNat : Int) = bt a0 0 := bt_at a0 0
      clear p4
      have qi4 : (0 < (a0.size : Int)) = True := eq_true (of_decide_eq_true (by first | (with_reducible assumption) | assumption))
      replace q4 := eq_true q4
      go_enter Tryd.func24, Tryd.ntmps24
      go_wp2_with (first | (go_at_call 36; (with_reducible refine (backstepref02_letter.calls (bt a0 0) t125 _ A5.out).mono ?_); rintro e w' ⟨rfl, ⟨nd, rfl⟩⟩; (try first | exact ⟨rfl, _, World.drewN_drewN _ _ _⟩ | exact ⟨rfl, _, Eq.trans (World.drewN_drewN _ _ _) (congrArg (World.drewN _) (Nat.add_assoc _ _ _))⟩); have p6 : 0 ≤ (0 : Int) := (by omega); have q6 : 0 < a0.size := (by have : (0 : Int) < (a0.size : Int) := of_decide_eq_true (by first | (with_reducible assumption) | assumption); omega); have hx6 : ∀ h : 0 < a0.size, ((a0[0]'h).toNat : Int) = bt a0 0 := bt_at a0 0; clear p6; have qi6 : (0 < (a0.size : Int)) = True := eq_true (of_decide_eq_true (by first | (with_reducible assumption) | assumption)); replace q6 := eq_true q6))
      repeat (go_quiet (first | (go_at_call 36; (with_reducible refine (backstepref02_letter.calls (bt a0 0) t125 _ A5.out).mono ?_); rintro e w' ⟨rfl, ⟨nd, rfl⟩⟩; (try first | exact ⟨rfl, _, World.drewN_drewN _ _ _⟩ | exact ⟨rfl, _, Eq.trans (World.drewN_drewN _ _ _) (congrArg (World.drewN _) (Nat.add_assoc _ _ _))⟩); have p6 : 0 ≤ (0 : Int) := (by omega); have q6 : 0 < a0.size := (by have : (0 : Int) < (a0.size : Int) := of_decide_eq_true (by first | (with_reducible assumption) | assumption); omega); have hx6 : ∀ h : 0 < a0.size, ((a0[0]'h).toNat : Int) = bt a0 0 := bt_at a0 0; clear p6; have qi6 : (0 < (a0.size : Int)) = True := eq_true (of_decide_eq_true (by first | (with_reducible assumption) | assumption)); replace q6 := eq_true q6)); try go_wp2_with (first | (go_at_call 36; (with_reducible refine (backstepref02_letter.calls (bt a0 0) t125 _ A5.out).mono ?_); rintro e w' ⟨rfl, ⟨nd, rfl⟩⟩; (try first | exact ⟨rfl, _, World.drewN_drewN _ _ _⟩ | exact ⟨rfl, _, Eq.trans (World.drewN_drewN _ _ _) (congrArg (World.drewN _) (Nat.add_assoc _ _ _))⟩); have p6 : 0 ≤ (0 : Int) := (by omega); have q6 : 0 < a0.size := (by have : (0 : Int) < (a0.size : Int) := of_decide_eq_true (by first | (with_reducible assumption) | assumption); omega); have hx6 : ∀ h : 0 < a0.size, ((a0[0]'h).toNat : Int) = bt a0 0 := bt_at a0 0; clear p6; have qi6 : (0 < (a0.size : Int)) = True := eq_true (of_decide_eq_true (by first | (with_reducible assumption) | assumption)); replace q6 := eq_true q6)))
      go_loopg [3, 4, 5, 6, 7] k (fun kq v3 v4 v5 v6 v7 w' => ∃ (x3_1 : Bool) (x4_1 : Bool) (x5_1 : Bool) (x6_1 : Bool) (x7_1 : Int), v3 = .bool x3_1 ∧ v4 = .bool x4_1 ∧ v5 = .bool x5_1 ∧ v6 = .bool x6_1 ∧ v7 = .int .i64 x7_1 ∧ Aside0 (backstepref02_Kind.l0 kq a0 x3_1 x4_1 x5_1 x6_1 x7_1 = some r) ∧ Aside0 (kq ≤ k) ∧ Aside0 (Below w.heap.size w w'))
      case atStart => exact ⟨(t125), (true), (true), (((bt a0 0) == 35)), (0), (by first | rfl | (simp; done) | (simp [*]; done)), (by first | rfl | (simp; done) | (simp [*]; done)), (by first | rfl | (simp; done) | (simp [*]; done)), (by first | rfl | (simp; done) | (simp [*]; done)), (by first | rfl | (simp; done) | (simp [*]; done)), H', ⟨Nat.le_refl _⟩, ⟨by repeat (first | (with_reducible first | exact HB.out | apply below_alloc | apply pw_below_drewN | apply below_drew1) | exact HB.out)⟩⟩
      case round =>
        clear H'
        try clear c2
        try clear c2b0
        try clear c2b1
        try clear p2
        try clear c3
        try clear c3b0
        try clear c3b1
        try clear p4
        try clear q4
        try clear hx4
        try clear qi4
        try clear p6
        try clear q6
        try clear hx6
        try clear qi6
        try clear p4
        try clear p6
        try clear q4
        try clear q6
        obtain ⟨x3_1, x4_1, x5_1, x6_1, x7_1, rfl, rfl, rfl, rfl, rfl, HA, HK1, HB⟩ := hrel
        cases gk with
        | zero => exact absurd HA.out (by simp [backstepref02_Kind.l0])
        | succ k1 =>
          have H := HA.out
          clear HA
          simp only [backstepref02_Kind.l0] at H
          by_cases c7 : x7_1 < (a0.size : Int)
          · rw [if_pos c7] at H
            have c7b0 : decide (x7_1 < (a0.size : Int)) = true := decide_eq_true c7
            clear c7
            by_cases c8 : 0 ≤ x7_1
            · rw [if_pos c8] at H
              have c8b0 : decide (0 ≤ x7_1) = true := decide_eq_true c8
              clear c8
              by_cases c10 : x3_1 = true
              · subst c10
                have H1 : ((backstepref02_letter.f (bt a0 x7_1)).bind fun t126 => (if t126 = true then (if x4_1 = true then ((backstepref02_digit.f (bt a0 x7_1)).bind fun t127 => (if x5_1 = true then (if (bt a0 x7_1) = 32 then (if x6_1 = true then (backstepref02_Kind.l0 k1 a0 true t127 true ((bt a0 x7_1) != 10) (wrap64 (x7_1 + 1))) else (backstepref02_Kind.l0 k1 a0 true t127 true false (wrap64 (x7_1 + 1)))) else (if (bt a0 x7_1) = 9 then (if x6_1 = true then (backstepref02_Kind.l0 k1 a0 true t127 true ((bt a0 x7_1) != 10) (wrap64 (x7_1 + 1))) else (backstepref02_Kind.l0 k1 a0 true t127 true false (wrap64 (x7_1 + 1)))) else (if (bt a0 x7_1) = 13 then (if x6_1 = true then (backstepref02_Kind.l0 k1 a0 true t127 true ((bt a0 x7_1) != 10) (wrap64 (x7_1 + 1))) else (backstepref02_Kind.l0 k1 a0 true t127 true false (wrap64 (x7_1 + 1)))) else (if x6_1 = true then (backstepref02_Kind.l0 k1 a0 true t127 ((bt a0 x7_1) == 10) ((bt a0 x7_1) != 10) (wrap64 (x7_1 + 1))) else (backstepref02_Kind.l0 k1 a0 true t127 ((bt a0 x7_1) == 10) false (wrap64 (x7_1 + 1))))))) else (if x6_1 = true then (backstepref02_Kind.l0 k1 a0 true t127 false ((bt a0 x7_1) != 10) (wrap64 (x7_1 + 1))) else (backstepref02_Kind.l0 k1 a0 true t127 false false (wrap64 (x7_1 + 1)))))) else (if x5_1 = true then (if (bt a0 x7_1) = 32 then (if x6_1 = true then (backstepref02_Kind.l0 k1 a0 true false true ((bt a0 x7_1) != 10) (wrap64 (x7_1 + 1))) else (backstepref02_Kind.l0 k1 a0 true false true false (wrap64 (x7_1 + 1)))) else (if (bt a0 x7_1) = 9 then (if x6_1 = true then (backstepref02_Kind.l0 k1 a0 true false true ((bt a0 x7_1) != 10) (wrap64 (x7_1 + 1))) else (backstepref02_Kind.l0 k1 a0 true false true false (wrap64 (x7_1 + 1)))) else (if (bt a0 x7_1) = 13 then (if x6_1 = true then (backstepref02_Kind.l0 k1 a0 true false true ((bt a0 x7_1) != 10) (wrap64 (x7_1 + 1))) else (backstepref02_Kind.l0 k1 a0 true false true false (wrap64 (x7_1 + 1)))) else (if x6_1 = true then (backstepref02_Kind.l0 k1 a0 true false ((bt a0 x7_1) == 10) ((bt a0 x7_1) != 10) (wrap64 (x7_1 + 1))) else (backstepref02_Kind.l0 k1 a0 true false ((bt a0 x7_1) == 10) false (wrap64 (x7_1 + 1))))))) else (if x6_1 = true then (backstepref02_Kind.l0 k1 a0 true false false ((bt a0 x7_1) != 10) (wrap64 (x7_1 + 1))) else (backstepref02_Kind.l0 k1 a0 true false false false (wrap64 (x7_1 + 1)))))) else ((backstepref02_digit.f (bt a0 x7_1)).bind fun t128 => (if x4_1 = true then ((backstepref02_digit.f (bt a0 x7_1)).bind fun t129 => (if x5_1 = true then (if (bt a0 x7_1) = 32 then (if x6_1 = true then (backstepref02_Kind.l0 k1 a0 t128 t129 true ((bt a0 x7_1) != 10) (wrap64 (x7_1 + 1))) else (backstepref02_Kind.l0 k1 a0 t128 t129 true false (wrap64 (x7_1 + 1)))) else (if (bt a0 x7_1) = 9 then (if x6_1 = true then (backstepref02_Kind.l0 k1 a0 t128 t129 true ((bt a0 x7_1) != 10) (wrap64 (x7_1 + 1))) else (backstepref02_Kind.l0 k1 a0 t128 t129 true false (wrap64 (x7_1 + 1)))) else (if (bt a0 x7_1) = 13 then (if x6_1 = true then (backstepref02_Kind.l0 k1 a0 t128 t129 true ((bt a0 x7_1) != 10) (wrap64 (x7_1 + 1))) else (backstepref02_Kind.l0 k1 a0 t128 t129 true false (wrap64 (x7_1 + 1)))) else (if x6_1 = true then (backstepref02_Kind.l0 k1 a0 t128 t129 ((bt a0 x7_1) == 10) ((bt a0 x7_1) != 10) (wrap64 (x7_1 + 1))) else (backstepref02_Kind.l0 k1 a0 t128 t129 ((bt a0 x7_1) == 10) false (wrap64 (x7_1 + 1))))))) else (if x6_1 = true then (backstepref02_Kind.l0 k1 a0 t128 t129 false ((bt a0 x7_1) != 10) (wrap64 (x7_1 + 1))) else (backstepref02_Kind.l0 k1 a0 t128 t129 false false (wrap64 (x7_1 + 1)))))) else (if x5_1 = true then (if (bt a0 x7_1) = 32 then (if x6_1 = true then (backstepref02_Kind.l0 k1 a0 t128 false true ((bt a0 x7_1) != 10) (wrap64 (x7_1 + 1))) else (backstepref02_Kind.l0 k1 a0 t128 false true false (wrap64 (x7_1 + 1)))) else (if (bt a0 x7_1) = 9 then (if x6_1 = true then (backstepref02_Kind.l0 k1 a0 t128 false true ((bt a0 x7_1) != 10) (wrap64 (x7_1 + 1))) else (backstepref02_Kind.l0 k1 a0 t128 false true false (wrap64 (x7_1 + 1)))) else (if (bt a0 x7_1) = 13 then (if x6_1 = true then (backstepref02_Kind.l0 k1 a0 t128 false true ((bt a0 x7_1) != 10) (wrap64 (x7_1 + 1))) else (backstepref02_Kind.l0 k1 a0 t128 false true false (wrap64 (x7_1 + 1)))) else (if x6_1 = true then (backstepref02_Kind.l0 k1 a0 t128 false ((bt a0 x7_1) == 10) ((bt a0 x7_1) != 10) (wrap64 (x7_1 + 1))) else (backstepref02_Kind.l0 k1 a0 t128 false ((bt a0 x7_1) == 10) false (wrap64 (x7_1 + 1))))))) else (if x6_1 = true then (backstepref02_Kind.l0 k1 a0 t128 false false ((bt a0 x7_1) != 10) (wrap64 (x7_1 + 1))) else (backstepref02_Kind.l0 k1 a0 t128 false false false (wrap64 (x7_1 + 1))))))))) = some r := by rw [if_pos rfl] at H; exact H
                clear H
                have H := H1
                clear H1
                replace H := Option.bind_eq_some_iff.mp H
                obtain ⟨t126, A110, H⟩ := H
                replace H : (if t126 = true then (if x4_1 = true then ((backstepref02_digit.f (bt a0 x7_1)).bind fun t127 => (if x5_1 = true then (if (bt a0 x7_1) = 32 then (if x6_1 = true then (backstepref02_Kind.l0 k1 a0 true t127 true ((bt a0 x7_1) != 10) (wrap64 (x7_1 + 1))) else (backstepref02_Kind.l0 k1 a0 true t127 true false (wrap64 (x7_1 + 1)))) else (if (bt a0 x7_1) = 9 then (if x6_1 = true then (backstepref02_Kind.l0 k1 a0 true t127 true ((bt a0 x7_1) != 10) (wrap64 (x7_1 + 1))) else (backstepref02_Kind.l0 k1 a0 true t127 true false (wrap64 (x7_1 + 1)))) else (if (bt a0 x7_1) = 13 then (if x6_1 = true then (backstepref02_Kind.l0 k1 a0 true t127 true ((bt a0 x7_1) != 10) (wrap64 (x7_1 + 1))) else (backstepref02_Kind.l0 k1 a0 true t127 true false (wrap64 (x7_1 + 1)))) else (if x6_1 = true then (backstepref02_Kind.l0 k1 a0 true t127 ((bt a0 x7_1) == 10) ((bt a0 x7_1) != 10) (wrap64 (x7_1 + 1))) else (backstepref02_Kind.l0 k1 a0 true t127 ((bt a0 x7_1) == 10) false (wrap64 (x7_1 + 1))))))) else (if x6_1 = true then (backstepref02_Kind.l0 k1 a0 true t127 false ((bt a0 x7_1) != 10) (wrap64 (x7_1 + 1))) else (backstepref02_Kind.l0 k1 a0 true t127 false false (wrap64 (x7_1 + 1)))))) else (if x5_1 = true then (if (bt a0 x7_1) = 32 then (if x6_1 = true then (backstepref02_Kind.l0 k1 a0 true false true ((bt a0 x7_1) != 10) (wrap64 (x7_1 + 1))) else (backstepref02_Kind.l0 k1 a0 true false true false (wrap64 (x7_1 + 1)))) else (if (bt a0 x7_1) = 9 then (if x6_1 = true then (backstepref02_Kind.l0 k1 a0 true false true ((bt a0 x7_1) != 10) (wrap64 (x7_1 + 1))) else (backstepref02_Kind.l0 k1 a0 true false true false (wrap64 (x7_1 + 1)))) else (if (bt a0 x7_1) = 13 then (if x6_1 = true then (backstepref02_Kind.l0 k1 a0 true false true ((bt a0 x7_1) != 10) (wrap64 (x7_1 + 1))) else (backstepref02_Kind.l0 k1 a0 true false true false (wrap64 (x7_1 + 1)))) else (if x6_1 = true then (backstepref02_Kind.l0 k1 a0 true false ((bt a0 x7_1) == 10) ((bt a0 x7_1) != 10) (wrap64 (x7_1 + 1))) else (backstepref02_Kind.l0 k1 a0 true false ((bt a0 x7_1) == 10) false (wrap64 (x7_1 + 1))))))) else (if x6_1 = true then (backstepref02_Kind.l0 k1 a0 true false false ((bt a0 x7_1) != 10) (wrap64 (x7_1 + 1))) else (backstepref02_Kind.l0 k1 a0 true false false false (wrap64 (x7_1 + 1)))))) else ((backstepref02_digit.f (bt a0 x7_1)).bind fun t128 => (if x4_1 = true then ((backstepref02_digit.f (bt a0 x7_1)).bind fun t129 => (if x5_1 = true then (if (bt a0 x7_1) = 32 then (if x6_1 = true then (backstepref02_Kind.l0 k1 a0 t128 t129 true ((bt a0 x7_1) != 10) (wrap64 (x7_1 + 1))) else (backstepref02_Kind.l0 k1 a0 t128 t129 true false (wrap64 (x7_1 + 1)))) else (if (bt a0 x7_1) = 9 then (if x6_1 = true then (backstepref02_Kind.l0 k1 a0 t128 t129 true ((bt a0 x7_1) != 10) (wrap64 (x7_1 + 1))) else (backstepref02_Kind.l0 k1 a0 t128 t129 true false (wrap64 (x7_1 + 1)))) else (if (bt a0 x7_1) = 13 then (if x6_1 = true then (backstepref02_Kind.l0 k1 a0 t128 t129 true ((bt a0 x7_1) != 10) (wrap64 (x7_1 + 1))) else (backstepref02_Kind.l0 k1 a0 t128 t129 true false (wrap64 (x7_1 + 1)))) else (if x6_1 = true then (backstepref02_Kind.l0 k1 a0 t128 t129 ((bt a0 x7_1) == 10) ((bt a0 x7_1) != 10) (wrap64 (x7_1 + 1))) else (backstepref02_Kind.l0 k1 a0 t128 t129 ((bt a0 x7_1) == 10) false (wrap64 (x7_1 + 1))))))) else (if x6_1 = true then (backstepref02_Kind.l0 k1 a0 t128 t129 false ((bt a0 x7_1) != 10) (wrap64 (x7_1 + 1))) else (backstepref02_Kind.l0 k1 a0 t128 t129 false false (wrap64 (x7_1 + 1)))))) else (if x5_1 = true then (if (bt a0 x7_1) = 32 then (if x6_1 = true then (backstepref02_Kind.l0 k1 a0 t128 false true ((bt a0 x7_1) != 10) (wrap64 (x7_1 + 1))) else (backstepref02_Kind.l0 k1 a0 t128 false true false (wrap64 (x7_1 + 1)))) else (if (bt a0 x7_1) = 9 then (if x6_1 = true then (backstepref02_Kind.l0 k1 a0 t128 false true ((bt a0 x7_1) != 10) (wrap64 (x7_1 + 1))) else (backstepref02_Kind.l0 k1 a0 t128 false true false (wrap64 (x7_1 + 1)))) else (if (bt a0 x7_1) = 13 then (if x6_1 = true then (backstepref02_Kind.l0 k1 a0 t128 false true ((bt a0 x7_1) != 10) (wrap64 (x7_1 + 1))) else (backstepref02_Kind.l0 k1 a0 t128 false true false (wrap64 (x7_1 + 1)))) else (if x6_1 = true then (backstepref02_Kind.l0 k1 a0 t128 false ((bt a0 x7_1) == 10) ((bt a0 x7_1) != 10) (wrap64 (x7_1 + 1))) else (backstepref02_Kind.l0 k1 a0 t128 false ((bt a0 x7_1) == 10) false (wrap64 (x7_1 + 1))))))) else (if x6_1 = true then (backstepref02_Kind.l0 k1 a0 t128 false false ((bt a0 x7_1) != 10) (wrap64 (x7_1 + 1))) else (backstepref02_Kind.l0 k1 a0 t128 false false false (wrap64 (x7_1 + 1)))))))) = some r := H
                have A11 := Aside0.mk A110
                clear A110
                by_cases c12 : t126 = true
                · subst c12
                  have H1 : (if x4_1 = true then ((backstepref02_digit.f (bt a0 x7_1)).bind fun t127 => (if x5_1 = true then (if (bt a0 x7_1) = 32 then (if x6_1 = true then (backstepref02_Kind.l0 k1 a0 true t127 true ((bt a0 x7_1) != 10) (wrap64 (x7_1 + 1))) else (backstepref02_Kind.l0 k1 a0 true t127 true false (wrap64 (x7_1 + 1)))) else (if (bt a0 x7_1) = 9 then (if x6_1 = true then (backstepref02_Kind.l0 k1 a0 true t127 true ((bt a0 x7_1) != 10) (wrap64 (x7_1 + 1))) else (backstepref02_Kind.l0 k1 a0 true t127 true false (wrap64 (x7_1 + 1)))) else (if (bt a0 x7_1) = 13 then (if x6_1 = true then (backstepref02_Kind.l0 k1 a0 true t127 true ((bt a0 x7_1) != 10) (wrap64 (x7_1 + 1))) else (backstepref02_Kind.l0 k1 a0 true t127 true false (wrap64 (x7_1 + 1)))) else (if x6_1 = true then (backstepref02_Kind.l0 k1 a0 true t127 ((bt a0 x7_1) == 10) ((bt a0 x7_1) != 10) (wrap64 (x7_1 + 1))) else (backstepref02_Kind.l0 k1 a0 true t127 ((bt a0 x7_1) == 10) false (wrap64 (x7_1 + 1))))))) else (if x6_1 = true then (backstepref02_Kind.l0 k1 a0 true t127 false ((bt a0 x7_1) != 10) (wrap64 (x7_1 + 1))) else (backstepref02_Kind.l0 k1 a0 true t127 false false (wrap64 (x7_1 + 1)))))) else (if x5_1 = true then (if (bt a0 x7_1) = 32 then (if x6_1 = true then (backstepref02_Kind.l0 k1 a0 true false true ((bt a0 x7_1) != 10) (wrap64 (x7_1 + 1))) else (backstepref02_Kind.l0 k1 a0 true false true false (wrap64 (x7_1 + 1)))) else (if (bt a0 x7_1) = 9 then (if x6_1 = true then (backstepref02_Kind.l0 k1 a0 true false true ((bt a0 x7_1) != 10) (wrap64 (x7_1 + 1))) else (backstepref02_Kind.l0 k1 a0 true false true false (wrap64 (x7_1 + 1)))) else (if (bt a0 x7_1) = 13 then (if x6_1 = true then (backstepref02_Kind.l0 k1 a0 true false true ((bt a0 x7_1) != 10) (wrap64 (x7_1 + 1))) else (backstepref02_Kind.l0 k1 a0 true false true false (wrap64 (x7_1 + 1)))) else (if x6_1 = true then (backstepref02_Kind.l0 k1 a0 true false ((bt a0 x7_1) == 10) ((bt a0 x7_1) != 10) (wrap64 (x7_1 + 1))) else (backstepref02_Kind.l0 k1 a0 true false ((bt a0 x7_1) == 10) false (wrap64 (x7_1 + 1))))))) else (if x6_1 = true then (backstepref02_Kind.l0 k1 a0 true false false ((bt a0 x7_1) != 10) (wrap64 (x7_1 + 1))) else (backstepref02_Kind.l0 k1 a0 true false false false (wrap64 (x7_1 + 1)))))) = some r := by rw [if_pos rfl] at H; exact H
                  clear H
                  have H := H1
                  clear H1
                  by_cases c13 : x4_1 = true
                  · subst c13
                    have H1 : ((backstepref02_digit.f (bt a0 x7_1)).bind fun t127 => (if x5_1 = true then (if (bt a0 x7_1) = 32 then (if x6_1 = true then (backstepref02_Kind.l0 k1 a0 true t127 true ((bt a0 x7_1) != 10) (wrap64 (x7_1 + 1))) else (backstepref02_Kind.l0 k1 a0 true t127 true false (wrap64 (x7_1 + 1)))) else (if (bt a0 x7_1) = 9 then (if x6_1 = true then (backstepref02_Kind.l0 k1 a0 true t127 true ((bt a0 x7_1) != 10) (wrap64 (x7_1 + 1))) else (backstepref02_Kind.l0 k1 a0 true t127 true false (wrap64 (x7_1 + 1)))) else (if (bt a0 x7_1) = 13 then (if x6_1 = true then (backstepref02_Kind.l0 k1 a0 true t127 true ((bt a0 x7_1) != 10) (wrap64 (x7_1 + 1))) else (backstepref02_Kind.l0 k1 a0 true t127 true false (wrap64 (x7_1 + 1)))) else (if x6_1 = true then (backstepref02_Kind.l0 k1 a0 true t127 ((bt a0 x7_1) == 10) ((bt a0 x7_1) != 10) (wrap64 (x7_1 + 1))) else (backstepref02_Kind.l0 k1 a0 true t127 ((bt a0 x7_1) == 10) false (wrap64 (x7_1 + 1))))))) else (if x6_1 = true then (backstepref02_Kind.l0 k1 a0 true t127 false ((bt a0 x7_1) != 10) (wrap64 (x7_1 + 1))) else (backstepref02_Kind.l0 k1 a0 true t127 false false (wrap64 (x7_1 + 1)))))) = some r := by rw [if_pos rfl] at H; exact H
                    clear H
                    have H := H1
                    clear H1
                    replace H := Option.bind_eq_some_iff.mp H
                    obtain ⟨t127, A140, H⟩ := H
                    replace H : (if x5_1 = true then (if (bt a0 x7_1) = 32 then (if x6_1 = true then (backstepref02_Kind.l0 k1 a0 true t127 true ((bt a0 x7_1) != 10) (wrap64 (x7_1 + 1))) else (backstepref02_Kind.l0 k1 a0 true t127 true false (wrap64 (x7_1 + 1)))) else (if (bt a0 x7_1) = 9 then (if x6_1 = true then (backstepref02_Kind.l0 k1 a0 true t127 true ((bt a0 x7_1) != 10) (wrap64 (x7_1 + 1))) else (backstepref02_Kind.l0 k1 a0 true t127 true false (wrap64 (x7_1 + 1)))) else (if (bt a0 x7_1) = 13 then (if x6_1 = true then (backstepref02_Kind.l0 k1 a0 true t127 true ((bt a0 x7_1) != 10) (wrap64 (x7_1 + 1))) else (backstepref02_Kind.l0 k1 a0 true t127 true false (wrap64 (x7_1 + 1)))) else (if x6_1 = true then (backstepref02_Kind.l0 k1 a0 true t127 ((bt a0 x7_1) == 10) ((bt a0 x7_1) != 10) (wrap64 (x7_1 + 1))) else (backstepref02_Kind.l0 k1 a0 true t127 ((bt a0 x7_1) == 10) false (wrap64 (x7_1 + 1))))))) else (if x6_1 = true then (backstepref02_Kind.l0 k1 a0 true t127 false ((bt a0 x7_1) != 10) (wrap64 (x7_1 + 1))) else (backstepref02_Kind.l0 k1 a0 true t127 false false (wrap64 (x7_1 + 1))))) = some r := H
                    have A14 := Aside0.mk A140
                    clear A140
                    by_cases c15 : x5_1 = true
                    · subst c15
                      have H1 : (if (bt a0 x7_1) = 32 then (if x6_1 = true then (backstepref02_Kind.l0 k1 a0 true t127 true ((bt a0 x7_1) != 10) (wrap64 (x7_1 + 1))) else (backstepref02_Kind.l0 k1 a0 true t127 true false (wrap64 (x7_1 + 1)))) else (if (bt a0 x7_1) = 9 then (if x6_1 = true then (backstepref02_Kind.l0 k1 a0 true t127 true ((bt a0 x7_1) != 10) (wrap64 (x7_1 + 1))) else (backstepref02_Kind.l0 k1 a0 true t127 true false (wrap64 (x7_1 + 1)))) else (if (bt a0 x7_1) = 13 then (if x6_1 = true then (backstepref02_Kind.l0 k1 a0 true t127 true ((bt a0 x7_1) != 10) (wrap64 (x7_1 + 1))) else (backstepref02_Kind.l0 k1 a0 true t127 true false (wrap64 (x7_1 + 1)))) else (if x6_1 = true then (backstepref02_Kind.l0 k1 a0 true t127 ((bt a0 x7_1) == 10) ((bt a0 x7_1) != 10) (wrap64 (x7_1 + 1))) else (backstepref02_Kind.l0 k1 a0 true t127 ((bt a0 x7_1) == 10) false (wrap64 (x7_1 + 1))))))) = some r := by rw [if_pos rfl] at H; exact H
                      clear H
                      have H := H1
                      clear H1
                      by_cases c16 : (bt a0 x7_1) = 32
                      · rw [if_pos c16] at H
                        have c16b0 : ((bt a0 x7_1) == 32) = true := beq_iff_eq.mpr c16
                        have c16b1 : ((bt a0 x7_1) != 32) = false := bne_eq_false_iff_eq.mpr c16
                        clear c16
                        by_cases c17 : x6_1 = true
                        · subst c17
                          have H1 : (backstepref02_Kind.l0 k1 a0 true t127 true ((bt a0 x7_1) != 10) (wrap64 (x7_1 + 1))) = some r := by rw [if_pos rfl] at H; exact H
                          clear H
                          have H := H1
                          clear H1
                          have H' := Aside0.mk H
                          clear H
                          have p9 : 0 ≤ (x7_1 : Int) := of_decide_eq_true (by first | (with_reducible assumption) | assumption)
                          have q9 : x7_1 < (a0.size : Int) := of_decide_eq_true (by first | (with_reducible assumption) | assumption)
                          have hx9 := bt_at a0 x7_1
                          replace p9 := eq_true p9
                          replace q9 := eq_true q9
                          go_wp2_with (first | (go_at_call 36; (with_reducible refine (backstepref02_letter.calls (bt a0 x7_1) true _ A11.out).mono ?_); rintro e w' ⟨rfl, ⟨nd, rfl⟩⟩; (try first | exact ⟨rfl, _, World.drewN_drewN _ _ _⟩ | exact ⟨rfl, _, Eq.trans (World.drewN_drewN _ _ _) (congrArg (World.drewN _) (Nat.add_assoc _ _ _))⟩)) | (go_at_call 37; (with_reducible refine (backstepref02_digit.calls (bt a0 x7_1) t127 _ A14.out).mono ?_); rintro e w' ⟨rfl, ⟨nd, rfl⟩⟩; (try first | exact ⟨rfl, _, World.drewN_drewN _ _ _⟩ | exact ⟨rfl, _, Eq.trans (World.drewN_drewN _ _ _) (congrArg (World.drewN _) (Nat.add_assoc _ _ _))⟩)))
                          repeat (go_quiet (first | (go_at_call 36; (with_reducible refine (backstepref02_letter.calls (bt a0 x7_1) true _ A11.out).mono ?_); rintro e w' ⟨rfl, ⟨nd, rfl⟩⟩; (try first | exact ⟨rfl, _, World.drewN_drewN _ _ _⟩ | exact ⟨rfl, _, Eq.trans (World.drewN_drewN _ _ _) (congrArg (World.drewN _) (Nat.add_assoc _ _ _))⟩)) | (go_at_call 37; (with_reducible refine (backstepref02_digit.calls (bt a0 x7_1) t127 _ A14.out).mono ?_); rintro e w' ⟨rfl, ⟨nd, rfl⟩⟩; (try first | exact ⟨rfl, _, World.drewN_drewN _ _ _⟩ | exact ⟨rfl, _, Eq.trans (World.drewN_drewN _ _ _) (congrArg (World.drewN _) (Nat.add_assoc _ _ _))⟩))); try go_wp2_with (first | (go_at_call 36; (with_reducible refine (backstepref02_letter.calls (bt a0 x7_1) true _ A11.out).mono ?_); rintro e w' ⟨rfl, ⟨nd, rfl⟩⟩; (try first | exact ⟨rfl, _, World.drewN_drewN _ _ _⟩ | exact ⟨rfl, _, Eq.trans (World.drewN_drewN _ _ _) (congrArg (World.drewN _) (Nat.add_assoc _ _ _))⟩)) | (go_at_call 37; (with_reducible refine (backstepref02_digit.calls (bt a0 x7_1) t127 _ A14.out).mono ?_); rintro e w' ⟨rfl, ⟨nd, rfl⟩⟩; (try first | exact ⟨rfl, _, World.drewN_drewN _ _ _⟩ | exact ⟨rfl, _, Eq.trans (World.drewN_drewN _ _ _) (congrArg (World.drewN _) (Nat.add_assoc _ _ _))⟩))))
                          go_roundg k1
                          case measure => have := HK1.out; omega
                          case rel => exact ⟨(true), (t127), (true), (((bt a0 x7_1) != 10)), (wrap64 (x7_1 + 1)), (by first | rfl | (simp; done) | (simp [*]; done)), (by first | rfl | (simp; done) | (simp [*]; done)), (by first | rfl | (simp; done) | (simp [*]; done)), (by first | rfl | (simp; done) | (simp [*]; done)), (by first | rfl | (simp; done) | (simp [*]; done)), H', ⟨by have := HK1.out; omega⟩, ⟨by repeat (first | (with_reducible first | exact HB.out | apply below_alloc | apply pw_below_drewN | apply below_drew1) | exact HB.out)⟩⟩
                        · replace c17 := Bool.eq_false_iff.mpr c17
                          subst c17
                          have H1 : (backstepref02_Kind.l0 k1 a0 true t127 true false (wrap64 (x7_1 + 1))) = some r := by rw [if_neg (show ¬ (false = true) by decide)] at H; exact H
                          clear H
                          have H := H1
                          clear H1
                          have H' := Aside0.mk H
                          clear H
                          have p9 : 0 ≤ (x7_1 : Int) := of_decide_eq_true (by first | (with_reducible assumption) | assumption)
                          have q9 : x7_1 < (a0.size : Int) := of_decide_eq_true (by first | (with_reducible assumption) | assumption)
                          have hx9 := bt_at a0 x7_1
                          replace p9 := eq_true p9
                          replace q9 := eq_true q9
                          go_wp2_with (first | (go_at_call 36; (with_reducible refine (backstepref02_letter.calls (bt a0 x7_1) true _ A11.out).mono ?_); rintro e w' ⟨rfl, ⟨nd, rfl⟩⟩; (try first | exact ⟨rfl, _, World.drewN_drewN _ _ _⟩ | exact ⟨rfl, _, Eq.trans (World.drewN_drewN _ _ _) (congrArg (World.drewN _) (Nat.add_assoc _ _ _))⟩)) | (go_at_call 37; (with_reducible refine (backstepref02_digit.calls (bt a0 x7_1) t127 _ A14.out).mono ?_); rintro e w' ⟨rfl, ⟨nd, rfl⟩⟩; (try first | exact ⟨rfl, _, World.drewN_drewN _ _ _⟩ | exact ⟨rfl, _, Eq.trans (World.drewN_drewN _ _ _) (congrArg (World.drewN _) (Nat.add_assoc _ _ _))⟩)))
                          repeat (go_quiet (first | (go_at_call 36; (with_reducible refine (backstepref02_letter.calls (bt a0 x7_1) true _ A11.out).mono ?_); rintro e w' ⟨rfl, ⟨nd, rfl⟩⟩; (try first | exact ⟨rfl, _, World.drewN_drewN _ _ _⟩ | exact ⟨rfl, _, Eq.trans (World.drewN_drewN _ _ _) (congrArg (World.drewN _) (Nat.add_assoc _ _ _))⟩)) | (go_at_call 37; (with_reducible refine (backstepref02_digit.calls (bt a0 x7_1) t127 _ A14.out).mono ?_); rintro e w' ⟨rfl, ⟨nd, rfl⟩⟩; (try first | exact ⟨rfl, _, World.drewN_drewN _ _ _⟩ | exact ⟨rfl, _, Eq.trans (World.drewN_drewN _ _ _) (congrArg (World.drewN _) (Nat.add_assoc _ _ _))⟩))); try go_wp2_with (first | (go_at_call 36; (with_reducible refine (backstepref02_letter.calls (bt a0 x7_1) true _ A11.out).mono ?_); rintro e w' ⟨rfl, ⟨nd, rfl⟩⟩; (try first | exact ⟨rfl, _, World.drewN_drewN _ _ _⟩ | exact ⟨rfl, _, Eq.trans (World.drewN_drewN _ _ _) (congrArg (World.drewN _) (Nat.add_assoc _ _ _))⟩)) | (go_at_call 37; (with_reducible refine (backstepref02_digit.calls (bt a0 x7_1) t127 _ A14.out).mono ?_); rintro e w' ⟨rfl, ⟨nd, rfl⟩⟩; (try first | exact ⟨rfl, _, World.drewN_drewN _ _ _⟩ | exact ⟨rfl, _, Eq.trans (World.drewN_drewN _ _ _) (congrArg (World.drewN _) (Nat.add_assoc _ _ _))⟩))))
                          go_roundg k1
                          case measure => have := HK1.out; omega
                          case rel => exact ⟨(true), (t127), (true), (false), (wrap64 (x7_1 + 1)), (by first | rfl | (simp; done) | (simp [*]; done)), (by first | rfl | (simp; done) | (simp [*]; done)), (by first | rfl | (simp; done) | (simp [*]; done)), (by first | rfl | (simp; done) | (simp [*]; done)), (by first | rfl | (simp; done) | (simp [*]; done)), H', ⟨by have := HK1.out; omega⟩, ⟨by repeat (first | (with_reducible first | exact HB.out | apply below_alloc | apply pw_below_drewN | apply below_drew1) | exact HB.out)⟩⟩
                      · rw [if_neg c16] at H
                        have c16b0 : ((bt a0 x7_1) == 32) = false := beq_eq_false_iff_ne.mpr c16
                        have c16b1 : ((bt a0 x7_1) != 32) = true := bne_iff_ne.mpr c16
                        by_cases c18 : (bt a0 x7_1) = 9
                        · rw [if_pos c18] at H
                          have c18b0 : ((bt a0 x7_1) == 9) = true := beq_iff_eq.mpr c18
                          have c18b1 : ((bt a0 x7_1) != 9) = false := bne_eq_false_iff_eq.mpr c18
                          clear c18
                          by_cases c19 : x6_1 = true
                          · subst c19
                            have H1 : (backstepref02_Kind.l0 k1 a0 true t127 true ((bt a0 x7_1) != 10) (wrap64 (x7_1 + 1))) = some r := by rw [if_pos rfl] at H; exact H
                            clear H
                            have H := H1
                            clear H1
                            have H' := Aside0.mk H
                            clear H
                            have p9 : 0 ≤ (x7_1 : Int) := of_decide_eq_true (by first | (with_reducible assumption) | assumption)
                            have q9 : x7_1 < (a0.size : Int) := of_decide_eq_true (by first | (with_reducible assumption) | assumption)
                            have hx9 := bt_at a0 x7_1
                            replace p9 := eq_true p9
                            replace q9 := eq_true q9
                            go_wp2_with (first | (go_at_call 36; (with_reducible refine (backstepref02_letter.calls (bt a0 x7_1) true _ A11.out).mono ?_); rintro e w' ⟨rfl, ⟨nd, rfl⟩⟩; (try first | exact ⟨rfl, _, World.drewN_drewN _ _ _⟩ | exact ⟨rfl, _, Eq.trans (World.drewN_drewN _ _ _) (congrArg (World.drewN _) (Nat.add_assoc _ _ _))⟩)) | (go_at_call 37; (with_reducible refine (backstepref02_digit.calls (bt a0 x7_1) t127 _ A14.out).mono ?_); rintro e w' ⟨rfl, ⟨nd, rfl⟩⟩; (try first | exact ⟨rfl, _, World.drewN_drewN _ _ _⟩ | exact ⟨rfl, _, Eq.trans (World.drewN_drewN _ _ _) (congrArg (World.drewN _) (Nat.add_assoc _ _ _))⟩)))
                            repeat (go_quiet (first | (go_at_call 36; (with_reducible refine (backstepref02_letter.calls (bt a0 x7_1) true _ A11.out).mono ?_); rintro e w' ⟨rfl, ⟨nd, rfl⟩⟩; (try first | exact ⟨rfl, _, World.drewN_drewN _ _ _⟩ | exact ⟨rfl, _, Eq.trans (World.drewN_drewN _ _ _) (congrArg (World.drewN _) (Nat.add_assoc _ _ _))⟩)) | (go_at_call 37; (with_reducible refine (backstepref02_digit.calls (bt a0 x7_1) t127 _ A14.out).mono ?_); rintro e w' ⟨rfl, ⟨nd, rfl⟩⟩; (try first | exact ⟨rfl, _, World.drewN_drewN _ _ _⟩ | exact ⟨rfl, _, Eq.trans (World.drewN_drewN _ _ _) (congrArg (World.drewN _) (Nat.add_assoc _ _ _))⟩))); try go_wp2_with (first | (go_at_call 36; (with_reducible refine (backstepref02_letter.calls (bt a0 x7_1) true _ A11.out).mono ?_); rintro e w' ⟨rfl, ⟨nd, rfl⟩⟩; (try first | exact ⟨rfl, _, World.drewN_drewN _ _ _⟩ | exact ⟨rfl, _, Eq.trans (World.drewN_drewN _ _ _) (congrArg (World.drewN _) (Nat.add_assoc _ _ _))⟩)) | (go_at_call 37; (with_reducible refine (backstepref02_digit.calls (bt a0 x7_1) t127 _ A14.out).mono ?_); rintro e w' ⟨rfl, ⟨nd, rfl⟩⟩; (try first | exact ⟨rfl, _, World.drewN_drewN _ _ _⟩ | exact ⟨rfl, _, Eq.trans (World.drewN_drewN _ _ _) (congrArg (World.drewN _) (Nat.add_assoc _ _ _))⟩))))
                            go_roundg k1
                            case measure => have := HK1.out; omega
                            case rel => exact ⟨(true), (t127), (true), (((bt a0 x7_1) != 10)), (wrap64 (x7_1 + 1)), (by first | rfl | (simp; done) | (simp [*]; done)), (by first | rfl | (simp; done) | (simp [*]; done)), (by first | rfl | (simp; done) | (simp [*]; done)), (by first | rfl | (simp; done) | (simp [*]; done)), (by first | rfl | (simp; done) | (simp [*]; done)), H', ⟨by have := HK1.out; omega⟩, ⟨by repeat (first | (with_reducible first | exact HB.out | apply below_alloc | apply pw_below_drewN | apply below_drew1) | exact HB.out)⟩⟩
                          · replace c19 := Bool.eq_false_iff.mpr c19
                            subst c19
                            have H1 : (backstepref02_Kind.l0 k1 a0 true t127 true false (wrap64 (x7_1 + 1))) = some r := by rw [if_neg (show ¬ (false = true) by decide)] at H; exact H
                            clear H
                            have H := H1
                            clear H1
                            have H' := Aside0.mk H
                            clear H
                            have p9 : 0 ≤ (x7_1 : Int) := of_decide_eq_true (by first | (with_reducible assumption) | assumption)
                            have q9 : x7_1 < (a0.size : Int) := of_decide_eq_true (by first | (with_reducible assumption) | assumption)
                            have hx9 := bt_at a0 x7_1
                            replace p9 := eq_true p9
                            replace q9 := eq_true q9
                            go_wp2_with (first | (go_at_call 36; (with_reducible refine (backstepref02_letter.calls (bt a0 x7_1) true _ A11.out).mono ?_); rintro e w' ⟨rfl, ⟨nd, rfl⟩⟩; (try first | exact ⟨rfl, _, World.drewN_drewN _ _ _⟩ | exact ⟨rfl, _, Eq.trans (World.drewN_drewN _ _ _) (congrArg (World.drewN _) (Nat.add_assoc _ _ _))⟩)) | (go_at_call 37; (with_reducible refine (backstepref02_digit.calls (bt a0 x7_1) t127 _ A14.out).mono ?_); rintro e w' ⟨rfl, ⟨nd, rfl⟩⟩; (try first | exact ⟨rfl, _, World.drewN_drewN _ _ _⟩ | exact ⟨rfl, _, Eq.trans (World.drewN_drewN _ _ _) (congrArg (World.drewN _) (Nat.add_assoc _ _ _))⟩)))
                            repeat (go_quiet (first | (go_at_call 36; (with_reducible refine (backstepref02_letter.calls (bt a0 x7_1) true _ A11.out).mono ?_); rintro e w' ⟨rfl, ⟨nd, rfl⟩⟩; (try first | exact ⟨rfl, _, World.drewN_drewN _ _ _⟩ | exact ⟨rfl, _, Eq.trans (World.drewN_drewN _ _ _) (congrArg (World.drewN _) (Nat.add_assoc _ _ _))⟩)) | (go_at_call 37; (with_reducible refine (backstepref02_digit.calls (bt a0 x7_1) t127 _ A14.out).mono ?_); rintro e w' ⟨rfl, ⟨nd, rfl⟩⟩; (try first | exact ⟨rfl, _, World.drewN_drewN _ _ _⟩ | exact ⟨rfl, _, Eq.trans (World.drewN_drewN _ _ _) (congrArg (World.drewN _) (Nat.add_assoc _ _ _))⟩))); try go_wp2_with (first | (go_at_call 36; (with_reducible refine (backstepref02_letter.calls (bt a0 x7_1) true _ A11.out).mono ?_); rintro e w' ⟨rfl, ⟨nd, rfl⟩⟩; (try first | exact ⟨rfl, _, World.drewN_drewN _ _ _⟩ | exact ⟨rfl, _, Eq.trans (World.drewN_drewN _ _ _) (congrArg (World.drewN _) (Nat.add_assoc _ _ _))⟩)) | (go_at_call 37; (with_reducible refine (backstepref02_digit.calls (bt a0 x7_1) t127 _ A14.out).mono ?_); rintro e w' ⟨rfl, ⟨nd, rfl⟩⟩; (try first | exact ⟨rfl, _, World.drewN_drewN _ _ _⟩ | exact ⟨rfl, _, Eq.trans (World.drewN_drewN _ _ _) (congrArg (World.drewN _) (Nat.add_assoc _ _ _))⟩))))
                            go_roundg k1
                            case measure => have := HK1.out; omega
                            case rel => exact ⟨(true), (t127), (true), (false), (wrap64 (x7_1 + 1)), (by first | rfl | (simp; done) | (simp [*]; done)), (by first | rfl | (simp; done) | (simp [*]; done)), (by first | rfl | (simp; done) | (simp [*]; done)), (by first | rfl | (simp; done) | (simp [*]; done)), (by first | rfl | (simp; done) | (simp [*]; done)), H', ⟨by have := HK1.out; omega⟩, ⟨by repeat (first | (with_reducible first | exact HB.out | apply below_alloc | apply pw_below_drewN | apply below_drew1) | exact HB.out)⟩⟩
                        · rw [if_neg c18] at H
                          have c18b0 : ((bt a0 x7_1) == 9) = false := beq_eq_false_iff_ne.mpr c18
                          have c18b1 : ((bt a0 x7_1) != 9) = true := bne_iff_ne.mpr c18
                          by_cases c20 : (bt a0 x7_1) = 13
                          · rw [if_pos c20] at H
                            have c20b0 : ((bt a0 x7_1) == 13) = true := beq_iff_eq.mpr c20
                            have c20b1 : ((bt a0 x7_1) != 13) = false := bne_eq_false_iff_eq.mpr c20
                            clear c20
                            by_cases c21 : x6_1 = true
                            · subst c21
                              have H1 : (backstepref02_Kind.l0 k1 a0 true t127 true ((bt a0 x7_1) != 10) (wrap64 (x7_1 + 1))) = some r := by rw [if_pos rfl] at H; exact H
                              clear H
                              have H := H1
                              clear H1
                              have H' := Aside0.mk H
                              clear H
                              have p9 : 0 ≤ (x7_1 : Int) := of_decide_eq_true (by first | (with_reducible assumption) | assumption)
                              have q9 : x7_1 < (a0.size : Int) := of_decide_eq_true (by first | (with_reducible assumption) | assumption)
                              have hx9 := bt_at a0 x7_1
                              replace p9 := eq_true p9
                              replace q9 := eq_true q9
                              go_wp2_with (first | (go_at_call 36; (with_reducible refine (backstepref02_letter.calls (bt a0 x7_1) true _ A11.out).mono ?_); rintro e w' ⟨rfl, ⟨nd, rfl⟩⟩; (try first | exact ⟨rfl, _, World.drewN_drewN _ _ _⟩ | exact ⟨rfl, _, Eq.trans (World.drewN_drewN _ _ _) (congrArg (World.drewN _) (Nat.add_assoc _ _ _))⟩)) | (go_at_call 37; (with_reducible refine (backstepref02_digit.calls (bt a0 x7_1) t127 _ A14.out).mono ?_); rintro e w' ⟨rfl, ⟨nd, rfl⟩⟩; (try first | exact ⟨rfl, _, World.drewN_drewN _ _ _⟩ | exact ⟨rfl, _, Eq.trans (World.drewN_drewN _ _ _) (congrArg (World.drewN _) (Nat.add_assoc _ _ _))⟩)))
                              repeat (go_quiet (first | (go_at_call 36; (with_reducible refine (backstepref02_letter.calls (bt a0 x7_1) true _ A11.out).mono ?_); rintro e w' ⟨rfl, ⟨nd, rfl⟩⟩; (try first | exact ⟨rfl, _, World.drewN_drewN _ _ _⟩ | exact ⟨rfl, _, Eq.trans (World.drewN_drewN _ _ _) (congrArg (World.drewN _) (Nat.add_assoc _ _ _))⟩)) | (go_at_call 37; (with_reducible refine (backstepref02_digit.calls (bt a0 x7_1) t127 _ A14.out).mono ?_); rintro e w' ⟨rfl, ⟨nd, rfl⟩⟩; (try first | exact ⟨rfl, _, World.drewN_drewN _ _ _⟩ | exact ⟨rfl, _, Eq.trans (World.drewN_drewN _ _ _) (congrArg (World.drewN _) (Nat.add_assoc _ _ _))⟩))); try go_wp2_with (first | (go_at_call 36; (with_reducible refine (backstepref02_letter.calls (bt a0 x7_1) true _ A11.out).mono ?_); rintro e w' ⟨rfl, ⟨nd, rfl⟩⟩; (try first | exact ⟨rfl, _, World.drewN_drewN _ _ _⟩ | exact ⟨rfl, _, Eq.trans (World.drewN_drewN _ _ _) (congrArg (World.drewN _) (Nat.add_assoc _ _ _))⟩)) | (go_at_call 37; (with_reducible refine (backstepref02_digit.calls (bt a0 x7_1) t127 _ A14.out).mono ?_); rintro e w' ⟨rfl, ⟨nd, rfl⟩⟩; (try first | exact ⟨rfl, _, World.drewN_drewN _ _ _⟩ | exact ⟨rfl, _, Eq.trans (World.drewN_drewN _ _ _) (congrArg (World.drewN _) (Nat.add_assoc _ _ _))⟩))))
                              go_roundg k1
                              case measure => have := HK1.out; omega
                              case rel => exact ⟨(true), (t127), (true), (((bt a0 x7_1) != 10)), (wrap64 (x7_1 + 1)), (by first | rfl | (simp; done) | (simp [*]; done)), (by first | rfl | (simp; done) | (simp [*]; done)), (by first | rfl | (simp; done) | (simp [*]; done)), (by first | rfl | (simp; done) | (simp [*]; done)), (by first | rfl | (simp; done) | (simp [*]; done)), H', ⟨by have := HK1.out; omega⟩, ⟨by repeat (first | (with_reducible first | exact HB.out | apply below_alloc | apply pw_below_drewN | apply below_drew1) | exact HB.out)⟩⟩
                            · replace c21 := Bool.eq_false_iff.mpr c21
                              subst c21
                              have H1 : (backstepref02_Kind.l0 k1 a0 true t127 true false (wrap64 (x7_1 + 1))) = some r := by rw [if_neg (show ¬ (false = true) by decide)] at H; exact H
                              clear H
                              have H := H1
                              clear H1
                              have H' := Aside0.mk H
                              clear H
                              have p9 : 0 ≤ (x7_1 : Int) := of_decide_eq_true (by first | (with_reducible assumption) | assumption)
                              have q9 : x7_1 < (a0.size : Int) := of_decide_eq_true (by first | (with_reducible assumption) | assumption)
                              have hx9 := bt_at a0 x7_1
                              replace p9 := eq_true p9
                              replace q9 := eq_true q9
                              go_wp2_with (first | (go_at_call 36; (with_reducible refine (backstepref02_letter.calls (bt a0 x7_1) true _ A11.out).mono ?_); rintro e w' ⟨rfl, ⟨nd, rfl⟩⟩; (try first | exact ⟨rfl, _, World.drewN_drewN _ _ _⟩ | exact ⟨rfl, _, Eq.trans (World.drewN_drewN _ _ _) (congrArg (World.drewN _) (Nat.add_assoc _ _ _))⟩)) | (go_at_call 37; (with_reducible refine (backstepref02_digit.calls (bt a0 x7_1) t127 _ A14.out).mono ?_); rintro e w' ⟨rfl, ⟨nd, rfl⟩⟩; (try first | exact ⟨rfl, _, World.drewN_drewN _ _ _⟩ | exact ⟨rfl, _, Eq.trans (World.drewN_drewN _ _ _) (congrArg (World.drewN _) (Nat.add_assoc _ _ _))⟩)))
                              repeat (go_quiet (first | (go_at_call 36; (with_reducible refine (backstepref02_letter.calls (bt a0 x7_1) true _ A11.out).mono ?_); rintro e w' ⟨rfl, ⟨nd, rfl⟩⟩; (try first | exact ⟨rfl, _, World.drewN_drewN _ _ _⟩ | exact ⟨rfl, _, Eq.trans (World.drewN_drewN _ _ _) (congrArg (World.drewN _) (Nat.add_assoc _ _ _))⟩)) | (go_at_call 37; (with_reducible refine (backstepref02_digit.calls (bt a0 x7_1) t127 _ A14.out).mono ?_); rintro e w' ⟨rfl, ⟨nd, rfl⟩⟩; (try first | exact ⟨rfl, _, World.drewN_drewN _ _ _⟩ | exact ⟨rfl, _, Eq.trans (World.drewN_drewN _ _ _) (congrArg (World.drewN _) (Nat.add_assoc _ _ _))⟩))); try go_wp2_with (first | (go_at_call 36; (with_reducible refine (backstepref02_letter.calls (bt a0 x7_1) true _ A11.out).mono ?_); rintro e w' ⟨rfl, ⟨nd, rfl⟩⟩; (try first | exact ⟨rfl, _, World.drewN_drewN _ _ _⟩ | exact ⟨rfl, _, Eq.trans (World.drewN_drewN _ _ _) (congrArg (World.drewN _) (Nat.add_assoc _ _ _))⟩)) | (go_at_call 37; (with_reducible refine (backstepref02_digit.calls (bt a0 x7_1) t127 _ A14.out).mono ?_); rintro e w' ⟨rfl, ⟨nd, rfl⟩⟩; (try first | exact ⟨rfl, _, World.drewN_drewN _ _ _⟩ | exact ⟨rfl, _, Eq.trans (World.drewN_drewN _ _ _) (congrArg (World.drewN _) (Nat.add_assoc _ _ _))⟩))))
                              go_roundg k1
                              case measure => have := HK1.out; omega
                              case rel => exact ⟨(true), (t127), (true), (false), (wrap64 (x7_1 + 1)), (by first | rfl | (simp; done) | (simp [*]; done)), (by first | rfl | (simp; done) | (simp [*]; done)), (by first | rfl | (simp; done) | (simp [*]; done)), (by first | rfl | (simp; done) | (simp [*]; done)), (by first | rfl | (simp; done) | (simp [*]; done)), H', ⟨by have := HK1.out; omega⟩, ⟨by repeat (first | (with_reducible first | exact HB.out | apply below_alloc | apply pw_below_drewN | apply below_drew1) | exact HB.out)⟩⟩
                          · rw [if_neg c20] at H
                            have c20b0 : ((bt a0 x7_1) == 13) = false := beq_eq_false_iff_ne.mpr c20
                            have c20b1 : ((bt a0 x7_1) != 13) = true := bne_iff_ne.mpr c20
                            by_cases c22 : x6_1 = true
                            · subst c22
                              have H1 : (backstepref02_Kind.l0 k1 a0 true t127 ((bt a0 x7_1) == 10) ((bt a0 x7_1) != 10) (wrap64 (x7_1 + 1))) = some r := by rw [if_pos rfl] at H; exact H
                              clear H
                              have H := H1
                              clear H1
                              have H' := Aside0.mk H
                              clear H
                              have p9 : 0 ≤ (x7_1 : Int) := of_decide_eq_true (by first | (with_reducible assumption) | assumption)
                              have q9 : x7_1 < (a0.size : Int) := of_decide_eq_true (by first | (with_reducible assumption) | assumption)
                              have hx9 := bt_at a0 x7_1
                              replace p9 := eq_true p9
                              replace q9 := eq_true q9
                              go_wp2_with (first | (go_at_call 36; (with_reducible refine (backstepref02_letter.calls (bt a0 x7_1) true _ A11.out).mono ?_); rintro e w' ⟨rfl, ⟨nd, rfl⟩⟩; (try first | exact ⟨rfl, _, World.drewN_drewN _ _ _⟩ | exact ⟨rfl, _, Eq.trans (World.drewN_drewN _ _ _) (congrArg (World.drewN _) (Nat.add_assoc _ _ _))⟩)) | (go_at_call 37; (with_reducible refine (backstepref02_digit.calls (bt a0 x7_1) t127 _ A14.out).mono ?_); rintro e w' ⟨rfl, ⟨nd, rfl⟩⟩; (try first | exact ⟨rfl, _, World.drewN_drewN _ _ _⟩ | exact ⟨rfl, _, Eq.trans (World.drewN_drewN _ _ _) (congrArg (World.drewN _) (Nat.add_assoc _ _ _))⟩)))
                              repeat (go_quiet (first | (go_at_call 36; (with_reducible refine (backstepref02_letter.calls (bt a0 x7_1) true _ A11.out).mono ?_); rintro e w' ⟨rfl, ⟨nd, rfl⟩⟩; (try first | exact ⟨rfl, _, World.drewN_drewN _ _ _⟩ | exact ⟨rfl, _, Eq.trans (World.drewN_drewN _ _ _) (congrArg (World.drewN _) (Nat.add_assoc _ _ _))⟩)) | (go_at_call 37; (with_reducible refine (backstepref02_digit.calls (bt a0 x7_1) t127 _ A14.out).mono ?_); rintro e w' ⟨rfl, ⟨nd, rfl⟩⟩; (try first | exact ⟨rfl, _, World.drewN_drewN _ _ _⟩ | exact ⟨rfl, _, Eq.trans (World.drewN_drewN _ _ _) (congrArg (World.drewN _) (Nat.add_assoc _ _ _))⟩))); try go_wp2_with (first | (go_at_call 36; (with_reducible refine (backstepref02_letter.calls (bt a0 x7_1) true _ A11.out).mono ?_); rintro e w' ⟨rfl, ⟨nd, rfl⟩⟩; (try first | exact ⟨rfl, _, World.drewN_drewN _ _ _⟩ | exact ⟨rfl, _, Eq.trans (World.drewN_drewN _ _ _) (congrArg (World.drewN _) (Nat.add_assoc _ _ _))⟩)) | (go_at_call 37; (with_reducible refine (backstepref02_digit.calls (bt a0 x7_1) t127 _ A14.out).mono ?_); rintro e w' ⟨rfl, ⟨nd, rfl⟩⟩; (try first | exact ⟨rfl, _, World.drewN_drewN _ _ _⟩ | exact ⟨rfl, _, Eq.trans (World.drewN_drewN _ _ _) (congrArg (World.drewN _) (Nat.add_assoc _ _ _))⟩))))
                              go_roundg k1
                              case measure => have := HK1.out; omega
                              case rel => exact ⟨(true), (t127), (((bt a0 x7_1) == 10)), (((bt a0 x7_1) != 10)), (wrap64 (x7_1 + 1)), (by first | rfl | (simp; done) | (simp [*]; done)), (by first | rfl | (simp; done) | (simp [*]; done)), (by first | rfl | (simp; done) | (simp [*]; done)), (by first | rfl | (simp; done) | (simp [*]; done)), (by first | rfl | (simp; done) | (simp [*]; done)), H', ⟨by have := HK1.out; omega⟩, ⟨by repeat (first | (with_reducible first | exact HB.out | apply below_alloc | apply pw_below_drewN | apply below_drew1) | exact HB.out)⟩⟩
                            · replace c22 := Bool.eq_false_iff.mpr c22
                              subst c22
                              have H1 : (backstepref02_Kind.l0 k1 a0 true t127 ((bt a0 x7_1) == 10) false (wrap64 (x7_1 + 1))) = some r := by rw [if_neg (show ¬ (false = true) by decide)] at H; exact H
                              clear H
                              have H := H1
                              clear H1
                              have H' := Aside0.mk H
                              clear H
                              have p9 : 0 ≤ (x7_1 : Int) := of_decide_eq_true (by first | (with_reducible assumption) | assumption)
                              have q9 : x7_1 < (a0.size : Int) := of_decide_eq_true (by first | (with_reducible assumption) | assumption)
                              have hx9 := bt_at a0 x7_1
                              replace p9 := eq_true p9
                              replace q9 := eq_true q9
                              go_wp2_with (first | (go_at_call 36; (with_reducible refine (backstepref02_letter.calls (bt a0 x7_1) true _ A11.out).mono ?_); rintro e w' ⟨rfl, ⟨nd, rfl⟩⟩; (try first | exact ⟨rfl, _, World.drewN_drewN _ _ _⟩ | exact ⟨rfl, _, Eq.trans (World.drewN_drewN _ _ _) (congrArg (World.drewN _) (Nat.add_assoc _ _ _))⟩)) | (go_at_call 37; (with_reducible refine (backstepref02_digit.calls (bt a0 x7_1) t127 _ A14.out).mono ?_); rintro e w' ⟨rfl, ⟨nd, rfl⟩⟩; (try first | exact ⟨rfl, _, World.drewN_drewN _ _ _⟩ | exact ⟨rfl, _, Eq.trans (World.drewN_drewN _ _ _) (congrArg (World.drewN _) (Nat.add_assoc _ _ _))⟩)))
                              repeat (go_quiet (first | (go_at_call 36; (with_reducible refine (backstepref02_letter.calls (bt a0 x7_1) true _ A11.out).mono ?_); rintro e w' ⟨rfl, ⟨nd, rfl⟩⟩; (try first | exact ⟨rfl, _, World.drewN_drewN _ _ _⟩ | exact ⟨rfl, _, Eq.trans (World.drewN_drewN _ _ _) (congrArg (World.drewN _) (Nat.add_assoc _ _ _))⟩)) | (go_at_call 37; (with_reducible refine (backstepref02_digit.calls (bt a0 x7_1) t127 _ A14.out).mono ?_); rintro e w' ⟨rfl, ⟨nd, rfl⟩⟩; (try first | exact ⟨rfl, _, World.drewN_drewN _ _ _⟩ | exact ⟨rfl, _, Eq.trans (World.drewN_drewN _ _ _) (congrArg (World.drewN _) (Nat.add_assoc _ _ _))⟩))); try go_wp2_with (first | (go_at_call 36; (with_reducible refine (backstepref02_letter.calls (bt a0 x7_1) true _ A11.out).mono ?_); rintro e w' ⟨rfl, ⟨nd, rfl⟩⟩; (try first | exact ⟨rfl, _, World.drewN_drewN _ _ _⟩ | exact ⟨rfl, _, Eq.trans (World.drewN_drewN _ _ _) (congrArg (World.drewN _) (Nat.add_assoc _ _ _))⟩)) | (go_at_call 37; (with_reducible refine (backstepref02_digit.calls (bt a0 x7_1) t127 _ A14.out).mono ?_); rintro e w' ⟨rfl, ⟨nd, rfl⟩⟩; (try first | exact ⟨rfl, _, World.drewN_drewN _ _ _⟩ | exact ⟨rfl, _, Eq.trans (World.drewN_drewN _ _ _) (congrArg (World.drewN _) (Nat.add_assoc _ _ _))⟩))))
                              go_roundg k1
                              case measure => have := HK1.out; omega
                              case rel => exact ⟨(true), (t127), (((bt a0 x7_1) == 10)), (false), (wrap64 (x7_1 + 1)), (by first | rfl | (simp; done) | (simp [*]; done)), (by first | rfl | (simp; done) | (simp [*]; done)), (by first | rfl | (simp; done) | (simp [*]; done)), (by first | rfl | (simp; done) | (simp [*]; done)), (by first | rfl | (simp; done) | (simp [*]; done)), H', ⟨by have := HK1.out; omega⟩, ⟨by repeat (first | (with_reducible first | exact HB.out | apply below_alloc | apply pw_below_drewN | apply below_drew1) | exact HB.out)⟩⟩
                    · replace c15 := Bool.eq_false_iff.mpr c15
                      subst c15
                      have H1 : (if x6_1 = true then (backstepref02_Kind.l0 k1 a0 true t127 false ((bt a0 x7_1) != 10) (wrap64 (x7_1 + 1))) else (backstepref02_Kind.l0 k1 a0 true t127 false false (wrap64 (x7_1 + 1)))) = some r := by rw [if_neg (show ¬ (false = true) by decide)] at H; exact H
                      clear H
                      have H := H1
                      clear H1
                      by_cases c23 : x6_1 = true
                      · subst c23
                        have H1 : (backstepref02_Kind.l0 k1 a0 true t127 false ((bt a0 x7_1) != 10) (wrap64 (x7_1 + 1))) = some r := by rw [if_pos rfl] at H; exact H
                        clear H
                        have H := H1
                        clear H1
                        have H' := Aside0.mk H
                        clear H
                        have p9 : 0 ≤ (x7_1 : Int) := of_decide_eq_true (by first | (with_reducible assumption) | assumption)
                        have q9 : x7_1 < (a0.size : Int) := of_decide_eq_true (by first | (with_reducible assumption) | assumption)
                        have hx9 := bt_at a0 x7_1
                        replace p9 := eq_true p9
                        replace q9 := eq_true q9
                        go_wp2_with (first | (go_at_call 36; (with_reducible refine (backstepref02_letter.calls (bt a0 x7_1) true _ A11.out).mono ?_); rintro e w' ⟨rfl, ⟨nd, rfl⟩⟩; (try first | exact ⟨rfl, _, World.drewN_drewN _ _ _⟩ | exact ⟨rfl, _, Eq.trans (World.drewN_drewN _ _ _) (congrArg (World.drewN _) (Nat.add_assoc _ _ _))⟩)) | (go_at_call 37; (with_reducible refine (backstepref02_digit.calls (bt a0 x7_1) t127 _ A14.out).mono ?_); rintro e w' ⟨rfl, ⟨nd, rfl⟩⟩; (try first | exact ⟨rfl, _, World.drewN_drewN _ _ _⟩ | exact ⟨rfl, _, Eq.trans (World.drewN_drewN _ _ _) (congrArg (World.drewN _) (Nat.add_assoc _ _ _))⟩)))
                        repeat (go_quiet (first | (go_at_call 36; (with_reducible refine (backstepref02_letter.calls (bt a0 x7_1) true _ A11.out).mono ?_); rintro e w' ⟨rfl, ⟨nd, rfl⟩⟩; (try first | exact ⟨rfl, _, World.drewN_drewN _ _ _⟩ | exact ⟨rfl, _, Eq.trans (World.drewN_drewN _ _ _) (congrArg (World.drewN _) (Nat.add_assoc _ _ _))⟩)) | (go_at_call 37; (with_reducible refine (backstepref02_digit.calls (bt a0 x7_1) t127 _ A14.out).mono ?_); rintro e w' ⟨rfl, ⟨nd, rfl⟩⟩; (try first | exact ⟨rfl, _, World.drewN_drewN _ _ _⟩ | exact ⟨rfl, _, Eq.trans (World.drewN_drewN _ _ _) (congrArg (World.drewN _) (Nat.add_assoc _ _ _))⟩))); try go_wp2_with (first | (go_at_call 36; (with_reducible refine (backstepref02_letter.calls (bt a0 x7_1) true _ A11.out).mono ?_); rintro e w' ⟨rfl, ⟨nd, rfl⟩⟩; (try first | exact ⟨rfl, _, World.drewN_drewN _ _ _⟩ | exact ⟨rfl, _, Eq.trans (World.drewN_drewN _ _ _) (congrArg (World.drewN _) (Nat.add_assoc _ _ _))⟩)) | (go_at_call 37; (with_reducible refine (backstepref02_digit.calls (bt a0 x7_1) t127 _ A14.out).mono ?_); rintro e w' ⟨rfl, ⟨nd, rfl⟩⟩; (try first | exact ⟨rfl, _, World.drewN_drewN _ _ _⟩ | exact ⟨rfl, _, Eq.trans (World.drewN_drewN _ _ _) (congrArg (World.drewN _) (Nat.add_assoc _ _ _))⟩))))
                        go_roundg k1
                        case measure => have := HK1.out; omega
                        case rel => exact ⟨(true), (t127), (false), (((bt a0 x7_1) != 10)), (wrap64 (x7_1 + 1)), (by first | rfl | (simp; done) | (simp [*]; done)), (by first | rfl | (simp; done) | (simp [*]; done)), (by first | rfl | (simp; done) | (simp [*]; done)), (by first | rfl | (simp; done) | (simp [*]; done)), (by first | rfl | (simp; done) | (simp [*]; done)), H', ⟨by have := HK1.out; omega⟩, ⟨by repeat (first | (with_reducible first | exact HB.out | apply below_alloc | apply pw_below_drewN | apply below_drew1) | exact HB.out)⟩⟩
                      · replace c23 := Bool.eq_false_iff.mpr c23
                        subst c23
                        have H1 : (backstepref02_Kind.l0 k1 a0 true t127 false false (wrap64 (x7_1 + 1))) = some r := by rw [if_neg (show ¬ (false = true) by decide)] at H; exact H
                        clear H
                        have H := H1
                        clear H1
                        have H' := Aside0.mk H
                        clear H
                        have p9 : 0 ≤ (x7_1 : Int) := of_decide_eq_true (by first | (with_reducible assumption) | assumption)
                        have q9 : x7_1 < (a0.size : Int) := of_decide_eq_true (by first | (with_reducible assumption) | assumption)
                        have hx9 := bt_at a0 x7_1
                        replace p9 := eq_true p9
                        replace q9 := eq_true q9
                        go_wp2_with (first | (go_at_call 36; (with_reducible refine (backstepref02_letter.calls (bt a0 x7_1) true _ A11.out).mono ?_); rintro e w' ⟨rfl, ⟨nd, rfl⟩⟩; (try first | exact ⟨rfl, _, World.drewN_drewN _ _ _⟩ | exact ⟨rfl, _, Eq.trans (World.drewN_drewN _ _ _) (congrArg (World.drewN _) (Nat.add_assoc _ _ _))⟩)) | (go_at_call 37; (with_reducible refine (backstepref02_digit.calls (bt a0 x7_1) t127 _ A14.out).mono ?_); rintro e w' ⟨rfl, ⟨nd, rfl⟩⟩; (try first | exact ⟨rfl, _, World.drewN_drewN _ _ _⟩ | exact ⟨rfl, _, Eq.trans (World.drewN_drewN _ _ _) (congrArg (World.drewN _) (Nat.add_assoc _ _ _))⟩)))
                        repeat (go_quiet (first | (go_at_call 36; (with_reducible refine (backstepref02_letter.calls (bt a0 x7_1) true _ A11.out).mono ?_); rintro e w' ⟨rfl, ⟨nd, rfl⟩⟩; (try first | exact ⟨rfl, _, World.drewN_drewN _ _ _⟩ | exact ⟨rfl, _, Eq.trans (World.drewN_drewN _ _ _) (congrArg (World.drewN _) (Nat.add_assoc _ _ _))⟩)) | (go_at_call 37; (with_reducible refine (backstepref02_digit.calls (bt a0 x7_1) t127 _ A14.out).mono ?_); rintro e w' ⟨rfl, ⟨nd, rfl⟩⟩; (try first | exact ⟨rfl, _, World.drewN_drewN _ _ _⟩ | exact ⟨rfl, _, Eq.trans (World.drewN_drewN _ _ _) (congrArg (World.drewN _) (Nat.add_assoc _ _ _))⟩))); try go_wp2_with (first | (go_at_call 36; (with_reducible refine (backstepref02_letter.calls (bt a0 x7_1) true _ A11.out).mono ?_); rintro e w' ⟨rfl, ⟨nd, rfl⟩⟩; (try first | exact ⟨rfl, _, World.drewN_drewN _ _ _⟩ | exact ⟨rfl, _, Eq.trans (World.drewN_drewN _ _ _) (congrArg (World.drewN _) (Nat.add_assoc _ _ _))⟩)) | (go_at_call 37; (with_reducible refine (backstepref02_digit.calls (bt a0 x7_1) t127 _ A14.out).mono ?_); rintro e w' ⟨rfl, ⟨nd, rfl⟩⟩; (try first | exact ⟨rfl, _, World.drewN_drewN _ _ _⟩ | exact ⟨rfl, _, Eq.trans (World.drewN_drewN _ _ _) (congrArg (World.drewN _) (Nat.add_assoc _ _ _))⟩))))
                        go_roundg k1
                        case measure => have := HK1.out; omega
                        case rel => exact ⟨(true), (t127), (false), (false), (wrap64 (x7_1 + 1)), (by first | rfl | (simp; done) | (simp [*]; done)), (by first | rfl | (simp; done) | (simp [*]; done)), (by first | rfl | (simp; done) | (simp [*]; done)), (by first | rfl | (simp; done) | (simp [*]; done)), (by first | rfl | (simp; done) | (simp [*]; done)), H', ⟨by have := HK1.out; omega⟩, ⟨by repeat (first | (with_reducible first | exact HB.out | apply below_alloc | apply pw_below_drewN | apply below_drew1) | exact HB.out)⟩⟩
                  · replace c13 := Bool.eq_false_iff.mpr c13
                    subst c13
                    have H1 : (if x5_1 = true then (if (bt a0 x7_1) = 32 then (if x6_1 = true then (backstepref02_Kind.l0 k1 a0 true false true ((bt a0 x7_1) != 10) (wrap64 (x7_1 + 1))) else (backstepref02_Kind.l0 k1 a0 true false true false (wrap64 (x7_1 + 1)))) else (if (bt a0 x7_1) = 9 then (if x6_1 = true then (backstepref02_Kind.l0 k1 a0 true false true ((bt a0 x7_1) != 10) (wrap64 (x7_1 + 1))) else (backstepref02_Kind.l0 k1 a0 true false true false (wrap64 (x7_1 + 1)))) else (if (bt a0 x7_1) = 13 then (if x6_1 = true then (backstepref02_Kind.l0 k1 a0 true false true ((bt a0 x7_1) != 10) (wrap64 (x7_1 + 1))) else (backstepref02_Kind.l0 k1 a0 true false true false (wrap64 (x7_1 + 1)))) else (if x6_1 = true then (backstepref02_Kind.l0 k1 a0 true false ((bt a0 x7_1) == 10) ((bt a0 x7_1) != 10) (wrap64 (x7_1 + 1))) else (backstepref02_Kind.l0 k1 a0 true false ((bt a0 x7_1) == 10) false (wrap64 (x7_1 + 1))))))) else (if x6_1 = true then (backstepref02_Kind.l0 k1 a0 true false false ((bt a0 x7_1) != 10) (wrap64 (x7_1 + 1))) else (backstepref02_Kind.l0 k1 a0 true false false false (wrap64 (x7_1 + 1))))) = some r := by rw [if_neg (show ¬ (false = true) by decide)] at H; exact H
                    clear H
                    have H := H1
                    clear H1
                    by_cases c24 : x5_1 = true
                    · subst c24
                      have H1 : (if (bt a0 x7_1) = 32 then (if x6_1 = true then (backstepref02_Kind.l0 k1 a0 true false true ((bt a0 x7_1) != 10) (wrap64 (x7_1 + 1))) else (backstepref02_Kind.l0 k1 a0 true false true false (wrap64 (x7_1 + 1)))) else (if (bt a0 x7_1) = 9 then (if x6_1 = true then (backstepref02_Kind.l0 k1 a0 true false true ((bt a0 x7_1) != 10) (wrap64 (x7_1 + 1))) else (backstepref02_Kind.l0 k1 a0 true false true false (wrap64 (x7_1 + 1)))) else (if (bt a0 x7_1) = 13 then (if x6_1 = true then (backstepref02_Kind.l0 k1 a0 true false true ((bt a0 x7_1) != 10) (wrap64 (x7_1 + 1))) else (backstepref02_Kind.l0 k1 a0 true false true false (wrap64 (x7_1 + 1)))) else (if x6_1 = true then (backstepref02_Kind.l0 k1 a0 true false ((bt a0 x7_1) == 10) ((bt a0 x7_1) != 10) (wrap64 (x7_1 + 1))) else (backstepref02_Kind.l0 k1 a0 true false ((bt a0 x7_1) == 10) false (wrap64 (x7_1 + 1))))))) = some r := by rw [if_pos rfl] at H; exact H
                      clear H
                      have H := H1
                      clear H1
                      by_cases c25 : (bt a0 x7_1) = 32
                      · rw [if_pos c25] at H
                        have c25b0 : ((bt a0 x7_1) == 32) = true := beq_iff_eq.mpr c25
                        have c25b1 : ((bt a0 x7_1) != 32) = false := bne_eq_false_iff_eq.mpr c25
                        clear c25
                        by_cases c26 : x6_1 = true
                        · subst c26
                          have H1 : (backstepref02_Kind.l0 k1 a0 true false true ((bt a0 x7_1) != 10) (wrap64 (x7_1 + 1))) = some r := by rw [if_pos rfl] at H; exact H
                          clear H
                          have H := H1
                          clear H1
                          have H' := Aside0.mk H
                          clear H
                          have p9 : 0 ≤ (x7_1 : Int) := of_decide_eq_true (by first | (with_reducible assumption) | assumption)
                          have q9 : x7_1 < (a0.size : Int) := of_decide_eq_true (by first | (with_reducible assumption) | assumption)
                          have hx9 := bt_at a0 x7_1
                          replace p9 := eq_true p9
                          replace q9 := eq_true q9
                          go_wp2_with (first | (go_at_call 36; (with_reducible refine (backstepref02_letter.calls (bt a0 x7_1) true _ A11.out).mono ?_); rintro e w' ⟨rfl, ⟨nd, rfl⟩⟩; (try first | exact ⟨rfl, _, World.drewN_drewN _ _ _⟩ | exact ⟨rfl, _, Eq.trans (World.drewN_drewN _ _ _) (congrArg (World.drewN _) (Nat.add_assoc _ _ _))⟩)))
                          repeat (go_quiet (first | (go_at_call 36; (with_reducible refine (backstepref02_letter.calls (bt a0 x7_1) true _ A11.out).mono ?_); rintro e w' ⟨rfl, ⟨nd, rfl⟩⟩; (try first | exact ⟨rfl, _, World.drewN_drewN _ _ _⟩ | exact ⟨rfl, _, Eq.trans (World.drewN_drewN _ _ _) (congrArg (World.drewN _) (Nat.add_assoc _ _ _))⟩))); try go_wp2_with (first | (go_at_call 36; (with_reducible refine (backstepref02_letter.calls (bt a0 x7_1) true _ A11.out).mono ?_); rintro e w' ⟨rfl, ⟨nd, rfl⟩⟩; (try first | exact ⟨rfl, _, World.drewN_drewN _ _ _⟩ | exact ⟨rfl, _, Eq.trans (World.drewN_drewN _ _ _) (congrArg (World.drewN _) (Nat.add_assoc _ _ _))⟩))))
                          go_roundg k1
                          case measure => have := HK1.out; omega
                          case rel => exact ⟨(true), (false), (true), (((bt a0 x7_1) != 10)), (wrap64 (x7_1 + 1)), (by first | rfl | (simp; done) | (simp [*]; done)), (by first | rfl | (simp; done) | (simp [*]; done)), (by first | rfl | (simp; done) | (simp [*]; done)), (by first | rfl | (simp; done) | (simp [*]; done)), (by first | rfl | (simp; done) | (simp [*]; done)), H', ⟨by have := HK1.out; omega⟩, ⟨by repeat (first | (with_reducible first | exact HB.out | apply below_alloc | apply pw_below_drewN | apply below_drew1) | exact HB.out)⟩⟩
                        · replace c26 := Bool.eq_false_iff.mpr c26
                          subst c26
                          have H1 : (backstepref02_Kind.l0 k1 a0 true false true false (wrap64 (x7_1 + 1))) = some r := by rw [if_neg (show ¬ (false = true) by decide)] at H; exact H
                          clear H
                          have H := H1
                          clear H1
                          have H' := Aside0.mk H
                          clear H
                          have p9 : 0 ≤ (x7_1 : Int) := of_decide_eq_true (by first | (with_reducible assumption) | assumption)
                          have q9 : x7_1 < (a0.size : Int) := of_decide_eq_true (by first | (with_reducible assumption) | assumption)
                          have hx9 := bt_at a0 x7_1
                          replace p9 := eq_true p9
                          replace q9 := eq_true q9
                          go_wp2_with (first | (go_at_call 36; (with_reducible refine (backstepref02_letter.calls (bt a0 x7_1) true _ A11.out).mono ?_); rintro e w' ⟨rfl, ⟨nd, rfl⟩⟩; (try first | exact ⟨rfl, _, World.drewN_drewN _ _ _⟩ | exact ⟨rfl, _, Eq.trans (World.drewN_drewN _ _ _) (congrArg (World.drewN _) (Nat.add_assoc _ _ _))⟩)))
                          repeat (go_quiet (first | (go_at_call 36; (with_reducible refine (backstepref02_letter.calls (bt a0 x7_1) true _ A11.out).mono ?_); rintro e w' ⟨rfl, ⟨nd, rfl⟩⟩; (try first | exact ⟨rfl, _, World.drewN_drewN _ _ _⟩ | exact ⟨rfl, _, Eq.trans (World.drewN_drewN _ _ _) (congrArg (World.drewN _) (Nat.add_assoc _ _ _))⟩))); try go_wp2_with (first | (go_at_call 36; (with_reducible refine (backstepref02_letter.calls (bt a0 x7_1) true _ A11.out).mono ?_); rintro e w' ⟨rfl, ⟨nd, rfl⟩⟩; (try first | exact ⟨rfl, _, World.drewN_drewN _ _ _⟩ | exact ⟨rfl, _, Eq.trans (World.drewN_drewN _ _ _) (congrArg (World.drewN _) (Nat.add_assoc _ _ _))⟩))))
                          go_roundg k1
                          case measure => have := HK1.out; omega
                          case rel => exact ⟨(true), (false), (true), (false), (wrap64 (x7_1 + 1)), (by first | rfl | (simp; done) | (simp [*]; done)), (by first | rfl | (simp; done) | (simp [*]; done)), (by first | rfl | (simp; done) | (simp [*]; done)), (by first | rfl | (simp; done) | (simp [*]; done)), (by first | rfl | (simp; done) | (simp [*]; done)), H', ⟨by have := HK1.out; omega⟩, ⟨by repeat (first | (with_reducible first | exact HB.out | apply below_alloc | apply pw_below_drewN | apply below_drew1) | exact HB.out)⟩⟩
                      · rw [if_neg c25] at H
                        have c25b0 : ((bt a0 x7_1) == 32) = false := beq_eq_false_iff_ne.mpr c25
                        have c25b1 : ((bt a0 x7_1) != 32) = true := bne_iff_ne.mpr c25
                        by_cases c27 : (bt a0 x7_1) = 9
                        · rw [if_pos c27] at H
                          have c27b0 : ((bt a0 x7_1) == 9) = true := beq_iff_eq.mpr c27
                          have c27b1 : ((bt a0 x7_1) != 9) = false := bne_eq_false_iff_eq.mpr c27
                          clear c27
                          by_cases c28 : x6_1 = true
                          · subst c28
                            have H1 : (backstepref02_Kind.l0 k1 a0 true false true ((bt a0 x7_1) != 10) (wrap64 (x7_1 + 1))) = some r := by rw [if_pos rfl] at H; exact H
                            clear H
                            have H := H1
                            clear H1
                            have H' := Aside0.mk H
                            clear H
                            have p9 : 0 ≤ (x7_1 : Int) := of_decide_eq_true (by first | (with_reducible assumption) | assumption)
                            have q9 : x7_1 < (a0.size : Int) := of_decide_eq_true (by first | (with_reducible assumption) | assumption)
                            have hx9 := bt_at a0 x7_1
                            replace p9 := eq_true p9
                            replace q9 := eq_true q9
                            go_wp2_with (first | (go_at_call 36; (with_reducible refine (backstepref02_letter.calls (bt a0 x7_1) true _ A11.out).mono ?_); rintro e w' ⟨rfl, ⟨nd, rfl⟩⟩; (try first | exact ⟨rfl, _, World.drewN_drewN _ _ _⟩ | exact ⟨rfl, _, Eq.trans (World.drewN_drewN _ _ _) (congrArg (World.drewN _) (Nat.add_assoc _ _ _))⟩)))
                            repeat (go_quiet (first | (go_at_call 36; (with_reducible refine (backstepref02_letter.calls (bt a0 x7_1) true _ A11.out).mono ?_); rintro e w' ⟨rfl, ⟨nd, rfl⟩⟩; (try first | exact ⟨rfl, _, World.drewN_drewN _ _ _⟩ | exact ⟨rfl, _, Eq.trans (World.drewN_drewN _ _ _) (congrArg (World.drewN _) (Nat.add_assoc _ _ _))⟩))); try go_wp2_with (first | (go_at_call 36; (with_reducible refine (backstepref02_letter.calls (bt a0 x7_1) true _ A11.out).mono ?_); rintro e w' ⟨rfl, ⟨nd, rfl⟩⟩; (try first | exact ⟨rfl, _, World.drewN_drewN _ _ _⟩ | exact ⟨rfl, _, Eq.trans (World.drewN_drewN _ _ _) (congrArg (World.drewN _) (Nat.add_assoc _ _ _))⟩))))
                            go_roundg k1
                            case measure => have := HK1.out; omega
                            case rel => exact ⟨(true), (false), (true), (((bt a0 x7_1) != 10)), (wrap64 (x7_1 + 1)), (by first | rfl | (simp; done) | (simp [*]; done)), (by first | rfl | (simp; done) | (simp [*]; done)), (by first | rfl | (simp; done) | (simp [*]; done)), (by first | rfl | (simp; done) | (simp [*]; done)), (by first | rfl | (simp; done) | (simp [*]; done)), H', ⟨by have := HK1.out; omega⟩, ⟨by repeat (first | (with_reducible first | exact HB.out | apply below_alloc | apply pw_below_drewN | apply below_drew1) | exact HB.out)⟩⟩
                          · replace c28 := Bool.eq_false_iff.mpr c28
                            subst c28
                            have H1 : (backstepref02_Kind.l0 k1 a0 true false true false (wrap64 (x7_1 + 1))) = some r := by rw [if_neg (show ¬ (false = true) by decide)] at H; exact H
                            clear H
                            have H := H1
                            clear H1
                            have H' := Aside0.mk H
                            clear H
                            have p9 : 0 ≤ (x7_1 : Int) := of_decide_eq_true (by first | (with_reducible assumption) | assumption)
                            have q9 : x7_1 < (a0.size : Int) := of_decide_eq_true (by first | (with_reducible assumption) | assumption)
                            have hx9 := bt_at a0 x7_1
                            replace p9 := eq_true p9
                            replace q9 := eq_true q9
                            go_wp2_with (first | (go_at_call 36; (with_reducible refine (backstepref02_letter.calls (bt a0 x7_1) true _ A11.out).mono ?_); rintro e w' ⟨rfl, ⟨nd, rfl⟩⟩; (try first | exact ⟨rfl, _, World.drewN_drewN _ _ _⟩ | exact ⟨rfl, _, Eq.trans (World.drewN_drewN _ _ _) (congrArg (World.drewN _) (Nat.add_assoc _ _ _))⟩)))
                            repeat (go_quiet (first | (go_at_call 36; (with_reducible refine (backstepref02_letter.calls (bt a0 x7_1) true _ A11.out).mono ?_); rintro e w' ⟨rfl, ⟨nd, rfl⟩⟩; (try first | exact ⟨rfl, _, World.drewN_drewN _ _ _⟩ | exact ⟨rfl, _, Eq.trans (World.drewN_drewN _ _ _) (congrArg (World.drewN _) (Nat.add_assoc _ _ _))⟩))); try go_wp2_with (first | (go_at_call 36; (with_reducible refine (backstepref02_letter.calls (bt a0 x7_1) true _ A11.out).mono ?_); rintro e w' ⟨rfl, ⟨nd, rfl⟩⟩; (try first | exact ⟨rfl, _, World.drewN_drewN _ _ _⟩ | exact ⟨rfl, _, Eq.trans (World.drewN_drewN _ _ _) (congrArg (World.drewN _) (Nat.add_assoc _ _ _))⟩))))
                            go_roundg k1
                            case measure => have := HK1.out; omega
                            case rel => exact ⟨(true), (false), (true), (false), (wrap64 (x7_1 + 1)), (by first | rfl | (simp; done) | (simp [*]; done)), (by first | rfl | (simp; done) | (simp [*]; done)), (by first | rfl | (simp; done) | (simp [*]; done)), (by first | rfl | (simp; done) | (simp [*]; done)), (by first | rfl | (simp; done) | (simp [*]; done)), H', ⟨by have := HK1.out; omega⟩, ⟨by repeat (first | (with_reducible first | exact HB.out | apply below_alloc | apply pw_below_drewN | apply below_drew1) | exact HB.out)⟩⟩
                        · rw [if_neg c27] at H
                          have c27b0 : ((bt a0 x7_1) == 9) = false := beq_eq_false_iff_ne.mpr c27
                          have c27b1 : ((bt a0 x7_1) != 9) = true := bne_iff_ne.mpr c27
                          by_cases c29 : (bt a0 x7_1) = 13
                          · rw [if_pos c29] at H
                            have c29b0 : ((bt a0 x7_1) == 13) = true := beq_iff_eq.mpr c29
                            have c29b1 : ((bt a0 x7_1) != 13) = false := bne_eq_false_iff_eq.mpr c29
                            clear c29
                            by_cases c30 : x6_1 = true
                            · subst c30
                              have H1 : (backstepref02_Kind.l0 k1 a0 true false true ((bt a0 x7_1) != 10) (wrap64 (x7_1 + 1))) = some r := by rw [if_pos rfl] at H; exact H
                              clear H
                              have H := H1
                              clear H1
                              have H' := Aside0.mk H
                              clear H
                              have p9 : 0 ≤ (x7_1 : Int) := of_decide_eq_true (by first | (with_reducible assumption) | assumption)
                              have q9 : x7_1 < (a0.size : Int) := of_decide_eq_true (by first | (with_reducible assumption) | assumption)
                              have hx9 := bt_at a0 x7_1
                              replace p9 := eq_true p9
                              replace q9 := eq_true q9
                              go_wp2_with (first | (go_at_call 36; (with_reducible refine (backstepref02_letter.calls (bt a0 x7_1) true _ A11.out).mono ?_); rintro e w' ⟨rfl, ⟨nd, rfl⟩⟩; (try first | exact ⟨rfl, _, World.drewN_drewN _ _ _⟩ | exact ⟨rfl, _, Eq.trans (World.drewN_drewN _ _ _) (congrArg (World.drewN _) (Nat.add_assoc _ _ _))⟩)))
                              repeat (go_quiet (first | (go_at_call 36; (with_reducible refine (backstepref02_letter.calls (bt a0 x7_1) true _ A11.out).mono ?_); rintro e w' ⟨rfl, ⟨nd, rfl⟩⟩; (try first | exact ⟨rfl, _, World.drewN_drewN _ _ _⟩ | exact ⟨rfl, _, Eq.trans (World.drewN_drewN _ _ _) (congrArg (World.drewN _) (Nat.add_assoc _ _ _))⟩))); try go_wp2_with (first | (go_at_call 36; (with_reducible refine (backstepref02_letter.calls (bt a0 x7_1) true _ A11.out).mono ?_); rintro e w' ⟨rfl, ⟨nd, rfl⟩⟩; (try first | exact ⟨rfl, _, World.drewN_drewN _ _ _⟩ | exact ⟨rfl, _, Eq.trans (World.drewN_drewN _ _ _) (congrArg (World.drewN _) (Nat.add_assoc _ _ _))⟩))))
                              go_roundg k1
                              case measure => have := HK1.out; omega
                              case rel => exact ⟨(true), (false), (true), (((bt a0 x7_1) != 10)), (wrap64 (x7_1 + 1)), (by first | rfl | (simp; done) | (simp [*]; done)), (by first | rfl | (simp; done) | (simp [*]; done)), (by first | rfl | (simp; done) | (simp [*]; done)), (by first | rfl | (simp; done) | (simp [*]; done)), (by first | rfl | (simp; done) | (simp [*]; done)), H', ⟨by have := HK1.out; omega⟩, ⟨by repeat (first | (with_reducible first | exact HB.out | apply below_alloc | apply pw_below_drewN | apply below_drew1) | exact HB.out)⟩⟩
                            · replace c30 := Bool.eq_false_iff.mpr c30
                              subst c30
                              have H1 : (backstepref02_Kind.l0 k1 a0 true false true false (wrap64 (x7_1 + 1))) = some r := by rw [if_neg (show ¬ (false = true) by decide)] at H; exact H
                              clear H
                              have H := H1
                              clear H1
                              have H' := Aside0.mk H
                              clear H
                              have p9 : 0 ≤ (x7_1 : Int) := of_decide_eq_true (by first | (with_reducible assumption) | assumption)
                              have q9 : x7_1 < (a0.size : Int) := of_decide_eq_true (by first | (with_reducible assumption) | assumption)
                              have hx9 := bt_at a0 x7_1
                              replace p9 := eq_true p9
                              replace q9 := eq_true q9
                              go_wp2_with (first | (go_at_call 36; (with_reducible refine (backstepref02_letter.calls (bt a0 x7_1) true _ A11.out).mono ?_); rintro e w' ⟨rfl, ⟨nd, rfl⟩⟩; (try first | exact ⟨rfl, _, World.drewN_drewN _ _ _⟩ | exact ⟨rfl, _, Eq.trans (World.drewN_drewN _ _ _) (congrArg (World.drewN _) (Nat.add_assoc _ _ _))⟩)))
                              repeat (go_quiet (first | (go_at_call 36; (with_reducible refine (backstepref02_letter.calls (bt a0 x7_1) true _ A11.out).mono ?_); rintro e w' ⟨rfl, ⟨nd, rfl⟩⟩; (try first | exact ⟨rfl, _, World.drewN_drewN _ _ _⟩ | exact ⟨rfl, _, Eq.trans (World.drewN_drewN _ _ _) (congrArg (World.drewN _) (Nat.add_assoc _ _ _))⟩))); try go_wp2_with (first | (go_at_call 36; (with_reducible refine (backstepref02_letter.calls (bt a0 x7_1) true _ A11.out).mono ?_); rintro e w' ⟨rfl, ⟨nd, rfl⟩⟩; (try first | exact ⟨rfl, _, World.drewN_drewN _ _ _⟩ | exact ⟨rfl, _, Eq.trans (World.drewN_drewN _ _ _) (congrArg (World.drewN _) (Nat.add_assoc _ _ _))⟩))))
                              go_roundg k1
                              case measure => have := HK1.out; omega
                              case rel => exact ⟨(true), (false), (true), (false), (wrap64 (x7_1 + 1)), (by first | rfl | (simp; done) | (simp [*]; done)), (by first | rfl | (simp; done) | (simp [*]; done)), (by first | rfl | (simp; done) | (simp [*]; done)), (by first | rfl | (simp; done) | (simp [*]; done)), (by first | rfl | (simp; done) | (simp [*]; done)), H', ⟨by have := HK1.out; omega⟩, ⟨by repeat (first | (with_reducible first | exact HB.out | apply below_alloc | apply pw_below_drewN | apply below_drew1) | exact HB.out)⟩⟩
                          · rw [if_neg c29] at H
                            have c29b0 : ((bt a0 x7_1) == 13) = false := beq_eq_false_iff_ne.mpr c29
                            have c29b1 : ((bt a0 x7_1) != 13) = true := bne_iff_ne.mpr c29
                            by_cases c31 : x6_1 = true
                            · subst c31
                              have H1 : (backstepref02_Kind.l0 k1 a0 true false ((bt a0 x7_1) == 10) ((bt a0 x7_1) != 10) (wrap64 (x7_1 + 1))) = some r := by rw [if_pos rfl] at H; exact H
                              clear H
                              have H := H1
                              clear H1
                              have H' := Aside0.mk H
                              clear H
                              have p9 : 0 ≤ (x7_1 : Int) := of_decide_eq_true (by first | (with_reducible assumption) | assumption)
                              have q9 : x7_1 < (a0.size : Int) := of_decide_eq_true (by first | (with_reducible assumption) | assumption)
                              have hx9 := bt_at a0 x7_1
                              replace p9 := eq_true p9
                              replace q9 := eq_true q9
                              go_wp2_with (first | (go_at_call 36; (with_reducible refine (backstepref02_letter.calls (bt a0 x7_1) true _ A11.out).mono ?_); rintro e w' ⟨rfl, ⟨nd, rfl⟩⟩; (try first | exact ⟨rfl, _, World.drewN_drewN _ _ _⟩ | exact ⟨rfl, _, Eq.trans (World.drewN_drewN _ _ _) (congrArg (World.drewN _) (Nat.add_assoc _ _ _))⟩)))
                              repeat (go_quiet (first | (go_at_call 36; (with_reducible refine (backstepref02_letter.calls (bt a0 x7_1) true _ A11.out).mono ?_); rintro e w' ⟨rfl, ⟨nd, rfl⟩⟩; (try first | exact ⟨rfl, _, World.drewN_drewN _ _ _⟩ | exact ⟨rfl, _, Eq.trans (World.drewN_drewN _ _ _) (congrArg (World.drewN _) (Nat.add_assoc _ _ _))⟩))); try go_wp2_with (first | (go_at_call 36; (with_reducible refine (backstepref02_letter.calls (bt a0 x7_1) true _ A11.out).mono ?_); rintro e w' ⟨rfl, ⟨nd, rfl⟩⟩; (try first | exact ⟨rfl, _, World.drewN_drewN _ _ _⟩ | exact ⟨rfl, _, Eq.trans (World.drewN_drewN _ _ _) (congrArg (World.drewN _) (Nat.add_assoc _ _ _))⟩))))
                              go_roundg k1
                              case measure => have := HK1.out; omega
                              case rel => exact ⟨(true), (false), (((bt a0 x7_1) == 10)), (((bt a0 x7_1) != 10)), (wrap64 (x7_1 + 1)), (by first | rfl | (simp; done) | (simp [*]; done)), (by first | rfl | (simp; done) | (simp [*]; done)), (by first | rfl | (simp; done) | (simp [*]; done)), (by first | rfl | (simp; done) | (simp [*]; done)), (by first | rfl | (simp; done) | (simp [*]; done)), H', ⟨by have := HK1.out; omega⟩, ⟨by repeat (first | (with_reducible first | exact HB.out | apply below_alloc | apply pw_below_drewN | apply below_drew1) | exact HB.out)⟩⟩
                            · replace c31 := Bool.eq_false_iff.mpr c31
                              subst c31
                              have H1 : (backstepref02_Kind.l0 k1 a0 true false ((bt a0 x7_1) == 10) false (wrap64 (x7_1 + 1))) = some r := by rw [if_neg (show ¬ (false = true) by decide)] at H; exact H
                              clear H
                              have H := H1
                              clear H1
                              have H' := Aside0.mk H
                              clear H
                              have p9 : 0 ≤ (x7_1 : Int) := of_decide_eq_true (by first | (with_reducible assumption) | assumption)
                              have q9 : x7_1 < (a0.size : Int) := of_decide_eq_true (by first | (with_reducible assumption) | assumption)
                              have hx9 := bt_at a0 x7_1
                              replace p9 := eq_true p9
                              replace q9 := eq_true q9
                              go_wp2_with (first | (go_at_call 36; (with_reducible refine (backstepref02_letter.calls (bt a0 x7_1) true _ A11.out).mono ?_); rintro e w' ⟨rfl, ⟨nd, rfl⟩⟩; (try first | exact ⟨rfl, _, World.drewN_drewN _ _ _⟩ | exact ⟨rfl, _, Eq.trans (World.drewN_drewN _ _ _) (congrArg (World.drewN _) (Nat.add_assoc _ _ _))⟩)))
                              repeat (go_quiet (first | (go_at_call 36; (with_reducible refine (backstepref02_letter.calls (bt a0 x7_1) true _ A11.out).mono ?_); rintro e w' ⟨rfl, ⟨nd, rfl⟩⟩; (try first | exact ⟨rfl, _, World.drewN_drewN _ _ _⟩ | exact ⟨rfl, _, Eq.trans (World.drewN_drewN _ _ _) (congrArg (World.drewN _) (Nat.add_assoc _ _ _))⟩))); try go_wp2_with (first | (go_at_call 36; (with_reducible refine (backstepref02_letter.calls (bt a0 x7_1) true _ A11.out).mono ?_); rintro e w' ⟨rfl, ⟨nd, rfl⟩⟩; (try first | exact ⟨rfl, _, World.drewN_drewN _ _ _⟩ | exact ⟨rfl, _, Eq.trans (World.drewN_drewN _ _ _) (congrArg (World.drewN _) (Nat.add_assoc _ _ _))⟩))))
                              go_roundg k1
                              case measure => have := HK1.out; omega
                              case rel => exact ⟨(true), (false), (((bt a0 x7_1) == 10)), (false), (wrap64 (x7_1 + 1)), (by first | rfl | (simp; done) | (simp [*]; done)), (by first | rfl | (simp; done) | (simp [*]; done)), (by first | rfl | (simp; done) | (simp [*]; done)), (by first | rfl | (simp; done) | (simp [*]; done)), (by first | rfl | (simp; done) | (simp [*]; done)), H', ⟨by have := HK1.out; omega⟩, ⟨by repeat (first | (with_reducible first | exact HB.out | apply below_alloc | apply pw_below_drewN | apply below_drew1) | exact HB.out)⟩⟩
                    · replace c24 := Bool.eq_false_iff.mpr c24
                      subst c24
                      have H1 : (if x6_1 = true then (backstepref02_Kind.l0 k1 a0 true false false ((bt a0 x7_1) != 10) (wrap64 (x7_1 + 1))) else (backstepref02_Kind.l0 k1 a0 true false false false (wrap64 (x7_1 + 1)))) = some r := by rw [if_neg (show ¬ (false = true) by decide)] at H; exact H
                      clear H
                      have H := H1
                      clear H1
                      by_cases c32 : x6_1 = true
                      · subst c32
                        have H1 : (backstepref02_Kind.l0 k1 a0 true false false ((bt a0 x7_1) != 10) (wrap64 (x7_1 + 1))) = some r := by rw [if_pos rfl] at H; exact H
                        clear H
                        have H := H1
                        clear H1
                        have H' := Aside0.mk H
                        clear H
                        have p9 : 0 ≤ (x7_1 : Int) := of_decide_eq_true (by first | (with_reducible assumption) | assumption)
                        have q9 : x7_1 < (a0.size : Int) := of_decide_eq_true (by first | (with_reducible assumption) | assumption)
                        have hx9 := bt_at a0 x7_1
                        replace p9 := eq_true p9
                        replace q9 := eq_true q9
                        go_wp2_with (first | (go_at_call 36; (with_reducible refine (backstepref02_letter.calls (bt a0 x7_1) true _ A11.out).mono ?_); rintro e w' ⟨rfl, ⟨nd, rfl⟩⟩; (try first | exact ⟨rfl, _, World.drewN_drewN _ _ _⟩ | exact ⟨rfl, _, Eq.trans (World.drewN_drewN _ _ _) (congrArg (World.drewN _) (Nat.add_assoc _ _ _))⟩)))
                        repeat (go_quiet (first | (go_at_call 36; (with_reducible refine (backstepref02_letter.calls (bt a0 x7_1) true _ A11.out).mono ?_); rintro e w' ⟨rfl, ⟨nd, rfl⟩⟩; (try first | exact ⟨rfl, _, World.drewN_drewN _ _ _⟩ | exact ⟨rfl, _, Eq.trans (World.drewN_drewN _ _ _) (congrArg (World.drewN _) (Nat.add_assoc _ _ _))⟩))); try go_wp2_with (first | (go_at_call 36; (with_reducible refine (backstepref02_letter.calls (bt a0 x7_1) true _ A11.out).mono ?_); rintro e w' ⟨rfl, ⟨nd, rfl⟩⟩; (try first | exact ⟨rfl, _, World.drewN_drewN _ _ _⟩ | exact ⟨rfl, _, Eq.trans (World.drewN_drewN _ _ _) (congrArg (World.drewN _) (Nat.add_assoc _ _ _))⟩))))
                        go_roundg k1
                        case measure => have := HK1.out; omega
                        case rel => exact ⟨(true), (false), (false), (((bt a0 x7_1) != 10)), (wrap64 (x7_1 + 1)), (by first | rfl | (simp; done) | (simp [*]; done)), (by first | rfl | (simp; done) | (simp [*]; done)), (by first | rfl | (simp; done) | (simp [*]; done)), (by first | rfl | (simp; done) | (simp [*]; done)), (by first | rfl | (simp; done) | (simp [*]; done)), H', ⟨by have := HK1.out; omega⟩, ⟨by repeat (first | (with_reducible first | exact HB.out | apply below_alloc | apply pw_below_drewN | apply below_drew1) | exact HB.out)⟩⟩
                      · replace c32 := Bool.eq_false_iff.mpr c32
                        subst c32
                        have H1 : (backstepref02_Kind.l0 k1 a0 true false false false (wrap64 (x7_1 + 1))) = some r := by rw [if_neg (show ¬ (false = true) by decide)] at H; exact H
                        clear H
                        have H := H1
                        clear H1
                        have H' := Aside0.mk H
                        clear H
                        have p9 : 0 ≤ (x7_1 : Int) := of_decide_eq_true (by first | (with_reducible assumption) | assumption)
                        have q9 : x7_1 < (a0.size : Int) := of_decide_eq_true (by first | (with_reducible assumption) | assumption)
                        have hx9 := bt_at a0 x7_1
                        replace p9 := eq_true p9
                        replace q9 := eq_true q9
                        go_wp2_with (first | (go_at_call 36; (with_reducible refine (backstepref02_letter.calls (bt a0 x7_1) true _ A11.out).mono ?_); rintro e w' ⟨rfl, ⟨nd, rfl⟩⟩; (try first | exact ⟨rfl, _, World.drewN_drewN _ _ _⟩ | exact ⟨rfl, _, Eq.trans (World.drewN_drewN _ _ _) (congrArg (World.drewN _) (Nat.add_assoc _ _ _))⟩)))
                        repeat (go_quiet (first | (go_at_call 36; (with_reducible refine (backstepref02_letter.calls (bt a0 x7_1) true _ A11.out).mono ?_); rintro e w' ⟨rfl, ⟨nd, rfl⟩⟩; (try first | exact ⟨rfl, _, World.drewN_drewN _ _ _⟩ | exact ⟨rfl, _, Eq.trans (World.drewN_drewN _ _ _) (congrArg (World.drewN _) (Nat.add_assoc _ _ _))⟩))); try go_wp2_with (first | (go_at_call 36; (with_reducible refine (backstepref02_letter.calls (bt a0 x7_1) true _ A11.out).mono ?_); rintro e w' ⟨rfl, ⟨nd, rfl⟩⟩; (try first | exact ⟨rfl, _, World.drewN_drewN _ _ _⟩ | exact ⟨rfl, _, Eq.trans (World.drewN_drewN _ _ _) (congrArg (World.drewN _) (Nat.add_assoc _ _ _))⟩))))
                        go_roundg k1
                        case measure => have := HK1.out; omega
                        case rel => exact ⟨(true), (false), (false), (false), (wrap64 (x7_1 + 1)), (by first | rfl | (simp; done) | (simp [*]; done)), (by first | rfl | (simp; done) | (simp [*]; done)), (by first | rfl | (simp; done) | (simp [*]; done)), (by first | rfl | (simp; done) | (simp [*]; done)), (by first | rfl | (simp; done) | (simp [*]; done)), H', ⟨by have := HK1.out; omega⟩, ⟨by repeat (first | (with_reducible first | exact HB.out | apply below_alloc | apply pw_below_drewN | apply below_drew1) | exact HB.out)⟩⟩
                · replace c12 := Bool.eq_false_iff.mpr c12
                  subst c12
                  have H1 : ((backstepref02_digit.f (bt a0 x7_1)).bind fun t128 => (if x4_1 = true then ((backstepref02_digit.f (bt a0 x7_1)).bind fun t129 => (if x5_1 = true then (if (bt a0 x7_1) = 32 then (if x6_1 = true then (backstepref02_Kind.l0 k1 a0 t128 t129 true ((bt a0 x7_1) != 10) (wrap64 (x7_1 + 1))) else (backstepref02_Kind.l0 k1 a0 t128 t129 true false (wrap64 (x7_1 + 1)))) else (if (bt a0 x7_1) = 9 then (if x6_1 = true then (backstepref02_Kind.l0 k1 a0 t128 t129 true ((bt a0 x7_1) != 10) (wrap64 (x7_1 + 1))) else (backstepref02_Kind.l0 k1 a0 t128 t129 true false (wrap64 (x7_1 + 1)))) else (if (bt a0 x7_1) = 13 then (if x6_1 = true then (backstepref02_Kind.l0 k1 a0 t128 t129 true ((bt a0 x7_1) != 10) (wrap64 (x7_1 + 1))) else (backstepref02_Kind.l0 k1 a0 t128 t129 true false (wrap64 (x7_1 + 1)))) else (if x6_1 = true then (backstepref02_Kind.l0 k1 a0 t128 t129 ((bt a0 x7_1) == 10) ((bt a0 x7_1) != 10) (wrap64 (x7_1 + 1))) else (backstepref02_Kind.l0 k1 a0 t128 t129 ((bt a0 x7_1) == 10) false (wrap64 (x7_1 + 1))))))) else (if x6_1 = true then (backstepref02_Kind.l0 k1 a0 t128 t129 false ((bt a0 x7_1) != 10) (wrap64 (x7_1 + 1))) else (backstepref02_Kind.l0 k1 a0 t128 t129 false false (wrap64 (x7_1 + 1)))))) else (if x5_1 = true then (if (bt a0 x7_1) = 32 then (if x6_1 = true then (backstepref02_Kind.l0 k1 a0 t128 false true ((bt a0 x7_1) != 10) (wrap64 (x7_1 + 1))) else (backstepref02_Kind.l0 k1 a0 t128 false true false (wrap64 (x7_1 + 1)))) else (if (bt a0 x7_1) = 9 then (if x6_1 = true then (backstepref02_Kind.l0 k1 a0 t128 false true ((bt a0 x7_1) != 10) (wrap64 (x7_1 + 1))) else (backstepref02_Kind.l0 k1 a0 t128 false true false (wrap64 (x7_1 + 1)))) else (if (bt a0 x7_1) = 13 then (if x6_1 = true then (backstepref02_Kind.l0 k1 a0 t128 false true ((bt a0 x7_1) != 10) (wrap64 (x7_1 + 1))) else (backstepref02_Kind.l0 k1 a0 t128 false true false (wrap64 (x7_1 + 1)))) else (if x6_1 = true then (backstepref02_Kind.l0 k1 a0 t128 false ((bt a0 x7_1) == 10) ((bt a0 x7_1) != 10) (wrap64 (x7_1 + 1))) else (backstepref02_Kind.l0 k1 a0 t128 false ((bt a0 x7_1) == 10) false (wrap64 (x7_1 + 1))))))) else (if x6_1 = true then (backstepref02_Kind.l0 k1 a0 t128 false false ((bt a0 x7_1) != 10) (wrap64 (x7_1 + 1))) else (backstepref02_Kind.l0 k1 a0 t128 false false false (wrap64 (x7_1 + 1))))))) = some r := by rw [if_neg (show ¬ (false = true) by decide)] at H; exact H
                  clear H
                  have H := H1
                  clear H1
                  replace H := Option.bind_eq_some_iff.mp H
                  obtain ⟨t128, A330, H⟩ := H
                  replace H : (if x4_1 = true then ((backstepref02_digit.f (bt a0 x7_1)).bind fun t129 => (if x5_1 = true then (if (bt a0 x7_1) = 32 then (if x6_1 = true then (backstepref02_Kind.l0 k1 a0 t128 t129 true ((bt a0 x7_1) != 10) (wrap64 (x7_1 + 1))) else (backstepref02_Kind.l0 k1 a0 t128 t129 true false (wrap64 (x7_1 + 1)))) else (if (bt a0 x7_1) = 9 then (if x6_1 = true then (backstepref02_Kind.l0 k1 a0 t128 t129 true ((bt a0 x7_1) != 10) (wrap64 (x7_1 + 1))) else (backstepref02_Kind.l0 k1 a0 t128 t129 true false (wrap64 (x7_1 + 1)))) else (if (bt a0 x7_1) = 13 then (if x6_1 = true then (backstepref02_Kind.l0 k1 a0 t128 t129 true ((bt a0 x7_1) != 10) (wrap64 (x7_1 + 1))) else (backstepref02_Kind.l0 k1 a0 t128 t129 true false (wrap64 (x7_1 + 1)))) else (if x6_1 = true then (backstepref02_Kind.l0 k1 a0 t128 t129 ((bt a0 x7_1) == 10) ((bt a0 x7_1) != 10) (wrap64 (x7_1 + 1))) else (backstepref02_Kind.l0 k1 a0 t128 t129 ((bt a0 x7_1) == 10) false (wrap64 (x7_1 + 1))))))) else (if x6_1 = true then (backstepref02_Kind.l0 k1 a0 t128 t129 false ((bt a0 x7_1) != 10) (wrap64 (x7_1 + 1))) else (backstepref02_Kind.l0 k1 a0 t128 t129 false false (wrap64 (x7_1 + 1)))))) else (if x5_1 = true then (if (bt a0 x7_1) = 32 then (if x6_1 = true then (backstepref02_Kind.l0 k1 a0 t128 false true ((bt a0 x7_1) != 10) (wrap64 (x7_1 + 1))) else (backstepref02_Kind.l0 k1 a0 t128 false true false (wrap64 (x7_1 + 1)))) else (if (bt a0 x7_1) = 9 then (if x6_1 = true then (backstepref02_Kind.l0 k1 a0 t128 false true ((bt a0 x7_1) != 10) (wrap64 (x7_1 + 1))) else (backstepref02_Kind.l0 k1 a0 t128 false true false (wrap64 (x7_1 + 1)))) else (if (bt a0 x7_1) = 13 then (if x6_1 = true then (backstepref02_Kind.l0 k1 a0 t128 false true ((bt a0 x7_1) != 10) (wrap64 (x7_1 + 1))) else (backstepref02_Kind.l0 k1 a0 t128 false true false (wrap64 (x7_1 + 1)))) else (if x6_1 = true then (backstepref02_Kind.l0 k1 a0 t128 false ((bt a0 x7_1) == 10) ((bt a0 x7_1) != 10) (wrap64 (x7_1 + 1))) else (backstepref02_Kind.l0 k1 a0 t128 false ((bt a0 x7_1) == 10) false (wrap64 (x7_1 + 1))))))) else (if x6_1 = true then (backstepref02_Kind.l0 k1 a0 t128 false false ((bt a0 x7_1) != 10) (wrap64 (x7_1 + 1))) else (backstepref02_Kind.l0 k1 a0 t128 false false false (wrap64 (x7_1 + 1)))))) = some r := H
                  have A33 := Aside0.mk A330
                  clear A330
                  by_cases c34 : x4_1 = true
                  · subst c34
                    have H1 : ((backstepref02_digit.f (bt a0 x7_1)).bind fun t129 => (if x5_1 = true then (if (bt a0 x7_1) = 32 then (if x6_1 = true then (backstepref02_Kind.l0 k1 a0 t128 t129 true ((bt a0 x7_1) != 10) (wrap64 (x7_1 + 1))) else (backstepref02_Kind.l0 k1 a0 t128 t129 true false (wrap64 (x7_1 + 1)))) else (if (bt a0 x7_1) = 9 then (if x6_1 = true then (backstepref02_Kind.l0 k1 a0 t128 t129 true ((bt a0 x7_1) != 10) (wrap64 (x7_1 + 1))) else (backstepref02_Kind.l0 k1 a0 t128 t129 true false (wrap64 (x7_1 + 1)))) else (if (bt a0 x7_1) = 13 then (if x6_1 = true then (backstepref02_Kind.l0 k1 a0 t128 t129 true ((bt a0 x7_1) != 10) (wrap64 (x7_1 + 1))) else (backstepref02_Kind.l0 k1 a0 t128 t129 true false (wrap64 (x7_1 + 1)))) else (if x6_1 = true then (backstepref02_Kind.l0 k1 a0 t128 t129 ((bt a0 x7_1) == 10) ((bt a0 x7_1) != 10) (wrap64 (x7_1 + 1))) else (backstepref02_Kind.l0 k1 a0 t128 t129 ((bt a0 x7_1) == 10) false (wrap64 (x7_1 + 1))))))) else (if x6_1 = true then (backstepref02_Kind.l0 k1 a0 t128 t129 false ((bt a0 x7_1) != 10) (wrap64 (x7_1 + 1))) else (backstepref02_Kind.l0 k1 a0 t128 t129 false false (wrap64 (x7_1 + 1)))))) = some r := by rw [if_pos rfl] at H; exact H
                    clear H
                    have H := H1
                    clear H1
                    replace H := Option.bind_eq_some_iff.mp H
                    obtain ⟨t129, A350, H⟩ := H
                    replace H : (if x5_1 = true then (if (bt a0 x7_1) = 32 then (if x6_1 = true then (backstepref02_Kind.l0 k1 a0 t128 t129 true ((bt a0 x7_1) != 10) (wrap64 (x7_1 + 1))) else (backstepref02_Kind.l0 k1 a0 t128 t129 true false (wrap64 (x7_1 + 1)))) else (if (bt a0 x7_1) = 9 then (if x6_1 = true then (backstepref02_Kind.l0 k1 a0 t128 t129 true ((bt a0 x7_1) != 10) (wrap64 (x7_1 + 1))) else (backstepref02_Kind.l0 k1 a0 t128 t129 true false (wrap64 (x7_1 + 1)))) else (if (bt a0 x7_1) = 13 then (if x6_1 = true then (backstepref02_Kind.l0 k1 a0 t128 t129 true ((bt a0 x7_1) != 10) (wrap64 (x7_1 + 1))) else (backstepref02_Kind.l0 k1 a0 t128 t129 true false (wrap64 (x7_1 + 1)))) else (if x6_1 = true then (backstepref02_Kind.l0 k1 a0 t128 t129 ((bt a0 x7_1) == 10) ((bt a0 x7_1) != 10) (wrap64 (x7_1 + 1))) else (backstepref02_Kind.l0 k1 a0 t128 t129 ((bt a0 x7_1) == 10) false (wrap64 (x7_1 + 1))))))) else (if x6_1 = true then (backstepref02_Kind.l0 k1 a0 t128 t129 false ((bt a0 x7_1) != 10) (wrap64 (x7_1 + 1))) else (backstepref02_Kind.l0 k1 a0 t128 t129 false false (wrap64 (x7_1 + 1))))) = some r := H
                    have A35 := Aside0.mk A350
                    clear A350
                    by_cases c36 : x5_1 = true
                    · subst c36
                      have H1 : (if (bt a0 x7_1) = 32 then (if x6_1 = true then (backstepref02_Kind.l0 k1 a0 t128 t129 true ((bt a0 x7_1) != 10) (wrap64 (x7_1 + 1))) else (backstepref02_Kind.l0 k1 a0 t128 t129 true false (wrap64 (x7_1 + 1)))) else (if (bt a0 x7_1) = 9 then (if x6_1 = true then (backstepref02_Kind.l0 k1 a0 t128 t129 true ((bt a0 x7_1) != 10) (wrap64 (x7_1 + 1))) else (backstepref02_Kind.l0 k1 a0 t128 t129 true false (wrap64 (x7_1 + 1)))) else (if (bt a0 x7_1) = 13 then (if x6_1 = true then (backstepref02_Kind.l0 k1 a0 t128 t129 true ((bt a0 x7_1) != 10) (wrap64 (x7_1 + 1))) else (backstepref02_Kind.l0 k1 a0 t128 t129 true false (wrap64 (x7_1 + 1)))) else (if x6_1 = true then (backstepref02_Kind.l0 k1 a0 t128 t129 ((bt a0 x7_1) == 10) ((bt a0 x7_1) != 10) (wrap64 (x7_1 + 1))) else (backstepref02_Kind.l0 k1 a0 t128 t129 ((bt a0 x7_1) == 10) false (wrap64 (x7_1 + 1))))))) = some r := by rw [if_pos rfl] at H; exact H
                      clear H
                      have H := H1
                      clear H1
                      by_cases c37 : (bt a0 x7_1) = 32
                      · rw [if_pos c37] at H
                        have c37b0 : ((bt a0 x7_1) == 32) = true := beq_iff_eq.mpr c37
                        have c37b1 : ((bt a0 x7_1) != 32) = false := bne_eq_false_iff_eq.mpr c37
                        clear c37
                        by_cases c38 : x6_1 = true
                        · subst c38
                          have H1 : (backstepref02_Kind.l0 k1 a0 t128 t129 true ((bt a0 x7_1) != 10) (wrap64 (x7_1 + 1))) = some r := by rw [if_pos rfl] at H; exact H
                          clear H
                          have H := H1
                          clear H1
                          have H' := Aside0.mk H
                          clear H
                          have p9 : 0 ≤ (x7_1 : Int) := of_decide_eq_true (by first | (with_reducible assumption) | assumption)
                          have q9 : x7_1 < (a0.size : Int) := of_decide_eq_true (by first | (with_reducible assumption) | assumption)
                          have hx9 := bt_at a0 x7_1
                          replace p9 := eq_true p9
                          replace q9 := eq_true q9
                          go_wp2_with (first | (go_at_call 36; (with_reducible refine (backstepref02_letter.calls (bt a0 x7_1) false _ A11.out).mono ?_); rintro e w' ⟨rfl, ⟨nd, rfl⟩⟩; (try first | exact ⟨rfl, _, World.drewN_drewN _ _ _⟩ | exact ⟨rfl, _, Eq.trans (World.drewN_drewN _ _ _) (congrArg (World.drewN _) (Nat.add_assoc _ _ _))⟩)) | (go_at_call 37; (with_reducible refine (backstepref02_digit.calls (bt a0 x7_1) t128 _ A33.out).mono ?_); rintro e w' ⟨rfl, ⟨nd, rfl⟩⟩; (try first | exact ⟨rfl, _, World.drewN_drewN _ _ _⟩ | exact ⟨rfl, _, Eq.trans (World.drewN_drewN _ _ _) (congrArg (World.drewN _) (Nat.add_assoc _ _ _))⟩)) | (go_at_call 37; (with_reducible refine (backstepref02_digit.calls (bt a0 x7_1) t129 _ A35.out).mono ?_); rintro e w' ⟨rfl, ⟨nd, rfl⟩⟩; (try first | exact ⟨rfl, _, World.drewN_drewN _ _ _⟩ | exact ⟨rfl, _, Eq.trans (World.drewN_drewN _ _ _) (congrArg (World.drewN _) (Nat.add_assoc _ _ _))⟩)))
                          repeat (go_quiet (first | (go_at_call 36; (with_reducible refine (backstepref02_letter.calls (bt a0 x7_1) false _ A11.out).mono ?_); rintro e w' ⟨rfl, ⟨nd, rfl⟩⟩; (try first | exact ⟨rfl, _, World.drewN_drewN _ _ _⟩ | exact ⟨rfl, _, Eq.trans (World.drewN_drewN _ _ _) (congrArg (World.drewN _) (Nat.add_assoc _ _ _))⟩)) | (go_at_call 37; (with_reducible refine (backstepref02_digit.calls (bt a0 x7_1) t128 _ A33.out).mono ?_); rintro e w' ⟨rfl, ⟨nd, rfl⟩⟩; (try first | exact ⟨rfl, _, World.drewN_drewN _ _ _⟩ | exact ⟨rfl, _, Eq.trans (World.drewN_drewN _ _ _) (congrArg (World.drewN _) (Nat.add_assoc _ _ _))⟩)) | (go_at_call 37; (with_reducible refine (backstepref02_digit.calls (bt a0 x7_1) t129 _ A35.out).mono ?_); rintro e w' ⟨rfl, ⟨nd, rfl⟩⟩; (try first | exact ⟨rfl, _, World.drewN_drewN _ _ _⟩ | exact ⟨rfl, _, Eq.trans (World.drewN_drewN _ _ _) (congrArg (World.drewN _) (Nat.add_assoc _ _ _))⟩))); try go_wp2_with (first | (go_at_call 36; (with_reducible refine (backstepref02_letter.calls (bt a0 x7_1) false _ A11.out).mono ?_); rintro e w' ⟨rfl, ⟨nd, rfl⟩⟩; (try first | exact ⟨rfl, _, World.drewN_drewN _ _ _⟩ | exact ⟨rfl, _, Eq.trans (World.drewN_drewN _ _ _) (congrArg (World.drewN _) (Nat.add_assoc _ _ _))⟩)) | (go_at_call 37; (with_reducible refine (backstepref02_digit.calls (bt a0 x7_1) t128 _ A33.out).mono ?_); rintro e w' ⟨rfl, ⟨nd, rfl⟩⟩; (try first | exact ⟨rfl, _, World.drewN_drewN _ _ _⟩ | exact ⟨rfl, _, Eq.trans (World.drewN_drewN _ _ _) (congrArg (World.drewN _) (Nat.add_assoc _ _ _))⟩)) | (go_at_call 37; (with_reducible refine (backstepref02_digit.calls (bt a0 x7_1) t129 _ A35.out).mono ?_); rintro e w' ⟨rfl, ⟨nd, rfl⟩⟩; (try first | exact ⟨rfl, _, World.drewN_drewN _ _ _⟩ | exact ⟨rfl, _, Eq.trans (World.drewN_drewN _ _ _) (congrArg (World.drewN _) (Nat.add_assoc _ _ _))⟩))))
                          go_roundg k1
                          case measure => have := HK1.out; omega
                          case rel => have E_ : t128 = t129 := Option.some.inj (A33.out.symm.trans A35.out); exact ⟨(t128), (t129), (true), (((bt a0 x7_1) != 10)), (wrap64 (x7_1 + 1)), (by first | rfl | (simp; done) | (simp [*]; done)), (by first | rfl | (simp; done) | (simp [*]; done)), (by first | rfl | (simp; done) | (simp [*]; done)), (by first | rfl | (simp; done) | (simp [*]; done)), (by first | rfl | (simp; done) | (simp [*]; done)), H', ⟨by have := HK1.out; omega⟩, ⟨by repeat (first | (with_reducible first | exact HB.out | apply below_alloc | apply pw_below_drewN | apply below_drew1) | exact HB.out)⟩⟩
                        · replace c38 := Bool.eq_false_iff.mpr c38
                          subst c38
                          have H1 : (backstepref02_Kind.l0 k1 a0 t128 t129 true false (wrap64 (x7_1 + 1))) = some r := by rw [if_neg (show ¬ (false = true) by decide)] at H; exact H
                          clear H
                          have H := H1
                          clear H1
                          have H' := Aside0.mk H
                          clear H
                          have p9 : 0 ≤ (x7_1 : Int) := of_decide_eq_true (by first | (with_reducible assumption) | assumption)
                          have q9 : x7_1 < (a0.size : Int) := of_decide_eq_true (by first | (with_reducible assumption) | assumption)
                          have hx9 := bt_at a0 x7_1
                          replace p9 := eq_true p9
                          replace q9 := eq_true q9
                          go_wp2_with (first | (go_at_call 36; (with_reducible refine (backstepref02_letter.calls (bt a0 x7_1) false _ A11.out).mono ?_); rintro e w' ⟨rfl, ⟨nd, rfl⟩⟩; (try first | exact ⟨rfl, _, World.drewN_drewN _ _ _⟩ | exact ⟨rfl, _, Eq.trans (World.drewN_drewN _ _ _) (congrArg (World.drewN _) (Nat.add_assoc _ _ _))⟩)) | (go_at_call 37; (with_reducible refine (backstepref02_digit.calls (bt a0 x7_1) t128 _ A33.out).mono ?_); rintro e w' ⟨rfl, ⟨nd, rfl⟩⟩; (try first | exact ⟨rfl, _, World.drewN_drewN _ _ _⟩ | exact ⟨rfl, _, Eq.trans (World.drewN_drewN _ _ _) (congrArg (World.drewN _) (Nat.add_assoc _ _ _))⟩)) | (go_at_call 37; (with_reducible refine (backstepref02_digit.calls (bt a0 x7_1) t129 _ A35.out).mono ?_); rintro e w' ⟨rfl, ⟨nd, rfl⟩⟩; (try first | exact ⟨rfl, _, World.drewN_drewN _ _ _⟩ | exact ⟨rfl, _, Eq.trans (World.drewN_drewN _ _ _) (congrArg (World.drewN _) (Nat.add_assoc _ _ _))⟩)))
                          repeat (go_quiet (first | (go_at_call 36; (with_reducible refine (backstepref02_letter.calls (bt a0 x7_1) false _ A11.out).mono ?_); rintro e w' ⟨rfl, ⟨nd, rfl⟩⟩; (try first | exact ⟨rfl, _, World.drewN_drewN _ _ _⟩ | exact ⟨rfl, _, Eq.trans (World.drewN_drewN _ _ _) (congrArg (World.drewN _) (Nat.add_assoc _ _ _))⟩)) | (go_at_call 37; (with_reducible refine (backstepref02_digit.calls (bt a0 x7_1) t128 _ A33.out).mono ?_); rintro e w' ⟨rfl, ⟨nd, rfl⟩⟩; (try first | exact ⟨rfl, _, World.drewN_drewN _ _ _⟩ | exact ⟨rfl, _, Eq.trans (World.drewN_drewN _ _ _) (congrArg (World.drewN _) (Nat.add_assoc _ _ _))⟩)) | (go_at_call 37; (with_reducible refine (backstepref02_digit.calls (bt a0 x7_1) t129 _ A35.out).mono ?_); rintro e w' ⟨rfl, ⟨nd, rfl⟩⟩; (try first | exact ⟨rfl, _, World.drewN_drewN _ _ _⟩ | exact ⟨rfl, _, Eq.trans (World.drewN_drewN _ _ _) (congrArg (World.drewN _) (Nat.add_assoc _ _ _))⟩))); try go_wp2_with (first | (go_at_call 36; (with_reducible refine (backstepref02_letter.calls (bt a0 x7_1) false _ A11.out).mono ?_); rintro e w' ⟨rfl, ⟨nd, rfl⟩⟩; (try first | exact ⟨rfl, _, World.drewN_drewN _ _ _⟩ | exact ⟨rfl, _, Eq.trans (World.drewN_drewN _ _ _) (congrArg (World.drewN _) (Nat.add_assoc _ _ _))⟩)) | (go_at_call 37; (with_reducible refine (backstepref02_digit.calls (bt a0 x7_1) t128 _ A33.out).mono ?_); rintro e w' ⟨rfl, ⟨nd, rfl⟩⟩; (try first | exact ⟨rfl, _, World.drewN_drewN _ _ _⟩ | exact ⟨rfl, _, Eq.trans (World.drewN_drewN _ _ _) (congrArg (World.drewN _) (Nat.add_assoc _ _ _))⟩)) | (go_at_call 37; (with_reducible refine (backstepref02_digit.calls (bt a0 x7_1) t129 _ A35.out).mono ?_); rintro e w' ⟨rfl, ⟨nd, rfl⟩⟩; (try first | exact ⟨rfl, _, World.drewN_drewN _ _ _⟩ | exact ⟨rfl, _, Eq.trans (World.drewN_drewN _ _ _) (congrArg (World.drewN _) (Nat.add_assoc _ _ _))⟩))))
                          go_roundg k1
                          case measure => have := HK1.out; omega
                          case rel => have E_ : t128 = t129 := Option.some.inj (A33.out.symm.trans A35.out); exact ⟨(t128), (t129), (true), (false), (wrap64 (x7_1 + 1)), (by first | rfl | (simp; done) | (simp [*]; done)), (by first | rfl | (simp; done) | (simp [*]; done)), (by first | rfl | (simp; done) | (simp [*]; done)), (by first | rfl | (simp; done) | (simp [*]; done)), (by first | rfl | (simp; done) | (simp [*]; done)), H', ⟨by have := HK1.out; omega⟩, ⟨by repeat (first | (with_reducible first | exact HB.out | apply below_alloc | apply pw_below_drewN | apply below_drew1) | exact HB.out)⟩⟩
                      · rw [if_neg c37] at H
                        have c37b0 : ((bt a0 x7_1) == 32) = false := beq_eq_false_iff_ne.mpr c37
                        have c37b1 : ((bt a0 x7_1) != 32) = true := bne_iff_ne.mpr c37
                        by_cases c39 : (bt a0 x7_1) = 9
                        · rw [if_pos c39] at H
                          have c39b0 : ((bt a0 x7_1) == 9) = true := beq_iff_eq.mpr c39
                          have c39b1 : ((bt a0 x7_1) != 9) = false := bne_eq_false_iff_eq.mpr c39
                          clear c39
                          by_cases c40 : x6_1 = true
                          · subst c40
                            have H1 : (backstepref02_Kind.l0 k1 a0 t128 t129 true ((bt a0 x7_1) != 10) (wrap64 (x7_1 + 1))) = some r := by rw [if_pos rfl] at H; exact H
                            clear H
                            have H := H1
                            clear H1
                            have H' := Aside0.mk H
                            clear H
                            have p9 : 0 ≤ (x7_1 : Int) := of_decide_eq_true (by first | (with_reducible assumption) | assumption)
                            have q9 : x7_1 < (a0.size : Int) := of_decide_eq_true (by first | (with_reducible assumption) | assumption)
                            have hx9 := bt_at a0 x7_1
                            replace p9 := eq_true p9
                            replace q9 := eq_true q9
                            go_wp2_with (first | (go_at_call 36; (with_reducible refine (backstepref02_letter.calls (bt a0 x7_1) false _ A11.out).mono ?_); rintro e w' ⟨rfl, ⟨nd, rfl⟩⟩; (try first | exact ⟨rfl, _, World.drewN_drewN _ _ _⟩ | exact ⟨rfl, _, Eq.trans (World.drewN_drewN _ _ _) (congrArg (World.drewN _) (Nat.add_assoc _ _ _))⟩)) | (go_at_call 37; (with_reducible refine (backstepref02_digit.calls (bt a0 x7_1) t128 _ A33.out).mono ?_); rintro e w' ⟨rfl, ⟨nd, rfl⟩⟩; (try first | exact ⟨rfl, _, World.drewN_drewN _ _ _⟩ | exact ⟨rfl, _, Eq.trans (World.drewN_drewN _ _ _) (congrArg (World.drewN _) (Nat.add_assoc _ _ _))⟩)) | (go_at_call 37; (with_reducible refine (backstepref02_digit.calls (bt a0 x7_1) t129 _ A35.out).mono ?_); rintro e w' ⟨rfl, ⟨nd, rfl⟩⟩; (try first | exact ⟨rfl, _, World.drewN_drewN _ _ _⟩ | exact ⟨rfl, _, Eq.trans (World.drewN_drewN _ _ _) (congrArg (World.drewN _) (Nat.add_assoc _ _ _))⟩)))
                            repeat (go_quiet (first | (go_at_call 36; (with_reducible refine (backstepref02_letter.calls (bt a0 x7_1) false _ A11.out).mono ?_); rintro e w' ⟨rfl, ⟨nd, rfl⟩⟩; (try first | exact ⟨rfl, _, World.drewN_drewN _ _ _⟩ | exact ⟨rfl, _, Eq.trans (World.drewN_drewN _ _ _) (congrArg (World.drewN _) (Nat.add_assoc _ _ _))⟩)) | (go_at_call 37; (with_reducible refine (backstepref02_digit.calls (bt a0 x7_1) t128 _ A33.out).mono ?_); rintro e w' ⟨rfl, ⟨nd, rfl⟩⟩; (try first | exact ⟨rfl, _, World.drewN_drewN _ _ _⟩ | exact ⟨rfl, _, Eq.trans (World.drewN_drewN _ _ _) (congrArg (World.drewN _) (Nat.add_assoc _ _ _))⟩)) | (go_at_call 37; (with_reducible refine (backstepref02_digit.calls (bt a0 x7_1) t129 _ A35.out).mono ?_); rintro e w' ⟨rfl, ⟨nd, rfl⟩⟩; (try first | exact ⟨rfl, _, World.drewN_drewN _ _ _⟩ | exact ⟨rfl, _, Eq.trans (World.drewN_drewN _ _ _) (congrArg (World.drewN _) (Nat.add_assoc _ _ _))⟩))); try go_wp2_with (first | (go_at_call 36; (with_reducible refine (backstepref02_letter.calls (bt a0 x7_1) false _ A11.out).mono ?_); rintro e w' ⟨rfl, ⟨nd, rfl⟩⟩; (try first | exact ⟨rfl, _, World.drewN_drewN _ _ _⟩ | exact ⟨rfl, _, Eq.trans (World.drewN_drewN _ _ _) (congrArg (World.drewN _) (Nat.add_assoc _ _ _))⟩)) | (go_at_call 37; (with_reducible refine (backstepref02_digit.calls (bt a0 x7_1) t128 _ A33.out).mono ?_); rintro e w' ⟨rfl, ⟨nd, rfl⟩⟩; (try first | exact ⟨rfl, _, World.drewN_drewN _ _ _⟩ | exact ⟨rfl, _, Eq.trans (World.drewN_drewN _ _ _) (congrArg (World.drewN _) (Nat.add_assoc _ _ _))⟩)) | (go_at_call 37; (with_reducible refine (backstepref02_digit.calls (bt a0 x7_1) t129 _ A35.out).mono ?_); rintro e w' ⟨rfl, ⟨nd, rfl⟩⟩; (try first | exact ⟨rfl, _, World.drewN_drewN _ _ _⟩ | exact ⟨rfl, _, Eq.trans (World.drewN_drewN _ _ _) (congrArg (World.drewN _) (Nat.add_assoc _ _ _))⟩))))
                            go_roundg k1
                            case measure => have := HK1.out; omega
                            case rel => have E_ : t128 = t129 := Option.some.inj (A33.out.symm.trans A35.out); exact ⟨(t128), (t129), (true), (((bt a0 x7_1) != 10)), (wrap64 (x7_1 + 1)), (by first | rfl | (simp; done) | (simp [*]; done)), (by first | rfl | (simp; done) | (simp [*]; done)), (by first | rfl | (simp; done) | (simp [*]; done)), (by first | rfl | (simp; done) | (simp [*]; done)), (by first | rfl | (simp; done) | (simp [*]; done)), H', ⟨by have := HK1.out; omega⟩, ⟨by repeat (first | (with_reducible first | exact HB.out | apply below_alloc | apply pw_below_drewN | apply below_drew1) | exact HB.out)⟩⟩
                          · replace c40 := Bool.eq_false_iff.mpr c40
                            subst c40
                            have H1 : (backstepref02_Kind.l0 k1 a0 t128 t129 true false (wrap64 (x7_1 + 1))) = some r := by rw [if_neg (show ¬ (false = true) by decide)] at H; exact H
                            clear H
                            have H := H1
                            clear H1
                            have H' := Aside0.mk H
                            clear H
                            have p9 : 0 ≤ (x7_1 : Int) := of_decide_eq_true (by first | (with_reducible assumption) | assumption)
                            have q9 : x7_1 < (a0.size : Int) := of_decide_eq_true (by first | (with_reducible assumption) | assumption)
                            have hx9 := bt_at a0 x7_1
                            replace p9 := eq_true p9
                            replace q9 := eq_true q9
                            go_wp2_with (first | (go_at_call 36; (with_reducible refine (backstepref02_letter.calls (bt a0 x7_1) false _ A11.out).mono ?_); rintro e w' ⟨rfl, ⟨nd, rfl⟩⟩; (try first | exact ⟨rfl, _, World.drewN_drewN _ _ _⟩ | exact ⟨rfl, _, Eq.trans (World.drewN_drewN _ _ _) (congrArg (World.drewN _) (Nat.add_assoc _ _ _))⟩)) | (go_at_call 37; (with_reducible refine (backstepref02_digit.calls (bt a0 x7_1) t128 _ A33.out).mono ?_); rintro e w' ⟨rfl, ⟨nd, rfl⟩⟩; (try first | exact ⟨rfl, _, World.drewN_drewN _ _ _⟩ | exact ⟨rfl, _, Eq.trans (World.drewN_drewN _ _ _) (congrArg (World.drewN _) (Nat.add_assoc _ _ _))⟩)) | (go_at_call 37; (with_reducible refine (backstepref02_digit.calls (bt a0 x7_1) t129 _ A35.out).mono ?_); rintro e w' ⟨rfl, ⟨nd, rfl⟩⟩; (try first | exact ⟨rfl, _, World.drewN_drewN _ _ _⟩ | exact ⟨rfl, _, Eq.trans (World.drewN_drewN _ _ _) (congrArg (World.drewN _) (Nat.add_assoc _ _ _))⟩)))
                            repeat (go_quiet (first | (go_at_call 36; (with_reducible refine (backstepref02_letter.calls (bt a0 x7_1) false _ A11.out).mono ?_); rintro e w' ⟨rfl, ⟨nd, rfl⟩⟩; (try first | exact ⟨rfl, _, World.drewN_drewN _ _ _⟩ | exact ⟨rfl, _, Eq.trans (World.drewN_drewN _ _ _) (congrArg (World.drewN _) (Nat.add_assoc _ _ _))⟩)) | (go_at_call 37; (with_reducible refine (backstepref02_digit.calls (bt a0 x7_1) t128 _ A33.out).mono ?_); rintro e w' ⟨rfl, ⟨nd, rfl⟩⟩; (try first | exact ⟨rfl, _, World.drewN_drewN _ _ _⟩ | exact ⟨rfl, _, Eq.trans (World.drewN_drewN _ _ _) (congrArg (World.drewN _) (Nat.add_assoc _ _ _))⟩)) | (go_at_call 37; (with_reducible refine (backstepref02_digit.calls (bt a0 x7_1) t129 _ A35.out).mono ?_); rintro e w' ⟨rfl, ⟨nd, rfl⟩⟩; (try first | exact ⟨rfl, _, World.drewN_drewN _ _ _⟩ | exact ⟨rfl, _, Eq.trans (World.drewN_drewN _ _ _) (congrArg (World.drewN _) (Nat.add_assoc _ _ _))⟩))); try go_wp2_with (first | (go_at_call 36; (with_reducible refine (backstepref02_letter.calls (bt a0 x7_1) false _ A11.out).mono ?_); rintro e w' ⟨rfl, ⟨nd, rfl⟩⟩; (try first | exact ⟨rfl, _, World.drewN_drewN _ _ _⟩ | exact ⟨rfl, _, Eq.trans (World.drewN_drewN _ _ _) (congrArg (World.drewN _) (Nat.add_assoc _ _ _))⟩)) | (go_at_call 37; (with_reducible refine (backstepref02_digit.calls (bt a0 x7_1) t128 _ A33.out).mono ?_); rintro e w' ⟨rfl, ⟨nd, rfl⟩⟩; (try first | exact ⟨rfl, _, World.drewN_drewN _ _ _⟩ | exact ⟨rfl, _, Eq.trans (World.drewN_drewN _ _ _) (congrArg (World.drewN _) (Nat.add_assoc _ _ _))⟩)) | (go_at_call 37; (with_reducible refine (backstepref02_digit.calls (bt a0 x7_1) t129 _ A35.out).mono ?_); rintro e w' ⟨rfl, ⟨nd, rfl⟩⟩; (try first | exact ⟨rfl, _, World.drewN_drewN _ _ _⟩ | exact ⟨rfl, _, Eq.trans (World.drewN_drewN _ _ _) (congrArg (World.drewN _) (Nat.add_assoc _ _ _))⟩))))
                            go_roundg k1
                            case measure => have := HK1.out; omega
                            case rel => have E_ : t128 = t129 := Option.some.inj (A33.out.symm.trans A35.out); exact ⟨(t128), (t129), (true), (false), (wrap64 (x7_1 + 1)), (by first | rfl | (simp; done) | (simp [*]; done)), (by first | rfl | (simp; done) | (simp [*]; done)), (by first | rfl | (simp; done) | (simp [*]; done)), (by first | rfl | (simp; done) | (simp [*]; done)), (by first | rfl | (simp; done) | (simp [*]; done)), H', ⟨by have := HK1.out; omega⟩, ⟨by repeat (first | (with_reducible first | exact HB.out | apply below_alloc | apply pw_below_drewN | apply below_drew1) | exact HB.out)⟩⟩
                        · rw [if_neg c39] at H
                          have c39b0 : ((bt a0 x7_1) == 9) = false := beq_eq_false_iff_ne.mpr c39
                          have c39b1 : ((bt a0 x7_1) != 9) = true := bne_iff_ne.mpr c39
                          by_cases c41 : (bt a0 x7_1) = 13
                          · rw [if_pos c41] at H
                            have c41b0 : ((bt a0 x7_1) == 13) = true := beq_iff_eq.mpr c41
                            have c41b1 : ((bt a0 x7_1) != 13) = false := bne_eq_false_iff_eq.mpr c41
                            clear c41
                            by_cases c42 : x6_1 = true
                            · subst c42
                              have H1 : (backstepref02_Kind.l0 k1 a0 t128 t129 true ((bt a0 x7_1) != 10) (wrap64 (x7_1 + 1))) = some r := by rw [if_pos rfl] at H; exact H
                              clear H
                              have H := H1
                              clear H1
                              have H' := Aside0.mk H
                              clear H
                              have p9 : 0 ≤ (x7_1 : Int) := of_decide_eq_true (by first | (with_reducible assumption) | assumption)
                              have q9 : x7_1 < (a0.size : Int) := of_decide_eq_true (by first | (with_reducible assumption) | assumption)
                              have hx9 := bt_at a0 x7_1
                              replace p9 := eq_true p9
                              replace q9 := eq_true q9
                              go_wp2_with (first | (go_at_call 36; (with_reducible refine (backstepref02_letter.calls (bt a0 x7_1) false _ A11.out).mono ?_); rintro e w' ⟨rfl, ⟨nd, rfl⟩⟩; (try first | exact ⟨rfl, _, World.drewN_drewN _ _ _⟩ | exact ⟨rfl, _, Eq.trans (World.drewN_drewN _ _ _) (congrArg (World.drewN _) (Nat.add_assoc _ _ _))⟩)) | (go_at_call 37; (with_reducible refine (backstepref02_digit.calls (bt a0 x7_1) t128 _ A33.out).mono ?_); rintro e w' ⟨rfl, ⟨nd, rfl⟩⟩; (try first | exact ⟨rfl, _, World.drewN_drewN _ _ _⟩ | exact ⟨rfl, _, Eq.trans (World.drewN_drewN _ _ _) (congrArg (World.drewN _) (Nat.add_assoc _ _ _))⟩)) | (go_at_call 37; (with_reducible refine (backstepref02_digit.calls (bt a0 x7_1) t129 _ A35.out).mono ?_); rintro e w' ⟨rfl, ⟨nd, rfl⟩⟩; (try first | exact ⟨rfl, _, World.drewN_drewN _ _ _⟩ | exact ⟨rfl, _, Eq.trans (World.drewN_drewN _ _ _) (congrArg (World.drewN _) (Nat.add_assoc _ _ _))⟩)))
                              repeat (go_quiet (first | (go_at_call 36; (with_reducible refine (backstepref02_letter.calls (bt a0 x7_1) false _ A11.out).mono ?_); rintro e w' ⟨rfl, ⟨nd, rfl⟩⟩; (try first | exact ⟨rfl, _, World.drewN_drewN _ _ _⟩ | exact ⟨rfl, _, Eq.trans (World.drewN_drewN _ _ _) (congrArg (World.drewN _) (Nat.add_assoc _ _ _))⟩)) | (go_at_call 37; (with_reducible refine (backstepref02_digit.calls (bt a0 x7_1) t128 _ A33.out).mono ?_); rintro e w' ⟨rfl, ⟨nd, rfl⟩⟩; (try first | exact ⟨rfl, _, World.drewN_drewN _ _ _⟩ | exact ⟨rfl, _, Eq.trans (World.drewN_drewN _ _ _) (congrArg (World.drewN _) (Nat.add_assoc _ _ _))⟩)) | (go_at_call 37; (with_reducible refine (backstepref02_digit.calls (bt a0 x7_1) t129 _ A35.out).mono ?_); rintro e w' ⟨rfl, ⟨nd, rfl⟩⟩; (try first | exact ⟨rfl, _, World.drewN_drewN _ _ _⟩ | exact ⟨rfl, _, Eq.trans (World.drewN_drewN _ _ _) (congrArg (World.drewN _) (Nat.add_assoc _ _ _))⟩))); try go_wp2_with (first | (go_at_call 36; (with_reducible refine (backstepref02_letter.calls (bt a0 x7_1) false _ A11.out).mono ?_); rintro e w' ⟨rfl, ⟨nd, rfl⟩⟩; (try first | exact ⟨rfl, _, World.drewN_drewN _ _ _⟩ | exact ⟨rfl, _, Eq.trans (World.drewN_drewN _ _ _) (congrArg (World.drewN _) (Nat.add_assoc _ _ _))⟩)) | (go_at_call 37; (with_reducible refine (backstepref02_digit.calls (bt a0 x7_1) t128 _ A33.out).mono ?_); rintro e w' ⟨rfl, ⟨nd, rfl⟩⟩; (try first | exact ⟨rfl, _, World.drewN_drewN _ _ _⟩ | exact ⟨rfl, _, Eq.trans (World.drewN_drewN _ _ _) (congrArg (World.drewN _) (Nat.add_assoc _ _ _))⟩)) | (go_at_call 37; (with_reducible refine (backstepref02_digit.calls (bt a0 x7_1) t129 _ A35.out).mono ?_); rintro e w' ⟨rfl, ⟨nd, rfl⟩⟩; (try first | exact ⟨rfl, _, World.drewN_drewN _ _ _⟩ | exact ⟨rfl, _, Eq.trans (World.drewN_drewN _ _ _) (congrArg (World.drewN _) (Nat.add_assoc _ _ _))⟩))))
                              go_roundg k1
                              case measure => have := HK1.out; omega
                              case rel => have E_ : t128 = t129 := Option.some.inj (A33.out.symm.trans A35.out); exact ⟨(t128), (t129), (true), (((bt a0 x7_1) != 10)), (wrap64 (x7_1 + 1)), (by first | rfl | (simp; done) | (simp [*]; done)), (by first | rfl | (simp; done) | (simp [*]; done)), (by first | rfl | (simp; done) | (simp [*]; done)), (by first | rfl | (simp; done) | (simp [*]; done)), (by first | rfl | (simp; done) | (simp [*]; done)), H', ⟨by have := HK1.out; omega⟩, ⟨by repeat (first | (with_reducible first | exact HB.out | apply below_alloc | apply pw_below_drewN | apply below_drew1) | exact HB.out)⟩⟩
                            · replace c42 := Bool.eq_false_iff.mpr c42
                              subst c42
                              have H1 : (backstepref02_Kind.l0 k1 a0 t128 t129 true false (wrap64 (x7_1 + 1))) = some r := by rw [if_neg (show ¬ (false = true) by decide)] at H; exact H
                              clear H
                              have H := H1
                              clear H1
                              have H' := Aside0.mk H
                              clear H
                              have p9 : 0 ≤ (x7_1 : Int) := of_decide_eq_true (by first | (with_reducible assumption) | assumption)
                              have q9 : x7_1 < (a0.size : Int) := of_decide_eq_true (by first | (with_reducible assumption) | assumption)
                              have hx9 := bt_at a0 x7_1
                              replace p9 := eq_true p9
                              replace q9 := eq_true q9
                              go_wp2_with (first | (go_at_call 36; (with_reducible refine (backstepref02_letter.calls (bt a0 x7_1) false _ A11.out).mono ?_); rintro e w' ⟨rfl, ⟨nd, rfl⟩⟩; (try first | exact ⟨rfl, _, World.drewN_drewN _ _ _⟩ | exact ⟨rfl, _, Eq.trans (World.drewN_drewN _ _ _) (congrArg (World.drewN _) (Nat.add_assoc _ _ _))⟩)) | (go_at_call 37; (with_reducible refine (backstepref02_digit.calls (bt a0 x7_1) t128 _ A33.out).mono ?_); rintro e w' ⟨rfl, ⟨nd, rfl⟩⟩; (try first | exact ⟨rfl, _, World.drewN_drewN _ _ _⟩ | exact ⟨rfl, _, Eq.trans (World.drewN_drewN _ _ _) (congrArg (World.drewN _) (Nat.add_assoc _ _ _))⟩)) | (go_at_call 37; (with_reducible refine (backstepref02_digit.calls (bt a0 x7_1) t129 _ A35.out).mono ?_); rintro e w' ⟨rfl, ⟨nd, rfl⟩⟩; (try first | exact ⟨rfl, _, World.drewN_drewN _ _ _⟩ | exact ⟨rfl, _, Eq.trans (World.drewN_drewN _ _ _) (congrArg (World.drewN _) (Nat.add_assoc _ _ _))⟩)))
                              repeat (go_quiet (first | (go_at_call 36; (with_reducible refine (backstepref02_letter.calls (bt a0 x7_1) false _ A11.out).mono ?_); rintro e w' ⟨rfl, ⟨nd, rfl⟩⟩; (try first | exact ⟨rfl, _, World.drewN_drewN _ _ _⟩ | exact ⟨rfl, _, Eq.trans (World.drewN_drewN _ _ _) (congrArg (World.drewN _) (Nat.add_assoc _ _ _))⟩)) | (go_at_call 37; (with_reducible refine (backstepref02_digit.calls (bt a0 x7_1) t128 _ A33.out).mono ?_); rintro e w' ⟨rfl, ⟨nd, rfl⟩⟩; (try first | exact ⟨rfl, _, World.drewN_drewN _ _ _⟩ | exact ⟨rfl, _, Eq.trans (World.drewN_drewN _ _ _) (congrArg (World.drewN _) (Nat.add_assoc _ _ _))⟩)) | (go_at_call 37; (with_reducible refine (backstepref02_digit.calls (bt a0 x7_1) t129 _ A35.out).mono ?_); rintro e w' ⟨rfl, ⟨nd, rfl⟩⟩; (try first | exact ⟨rfl, _, World.drewN_drewN _ _ _⟩ | exact ⟨rfl, _, Eq.trans (World.drewN_drewN _ _ _) (congrArg (World.drewN _) (Nat.add_assoc _ _ _))⟩))); try go_wp2_with (first | (go_at_call 36; (with_reducible refine (backstepref02_letter.calls (bt a0 x7_1) false _ A11.out).mono ?_); rintro e w' ⟨rfl, ⟨nd, rfl⟩⟩; (try first | exact ⟨rfl, _, World.drewN_drewN _ _ _⟩ | exact ⟨rfl, _, Eq.trans (World.drewN_drewN _ _ _) (congrArg (World.drewN _) (Nat.add_assoc _ _ _))⟩)) | (go_at_call 37; (with_reducible refine (backstepref02_digit.calls (bt a0 x7_1) t128 _ A33.out).mono ?_); rintro e w' ⟨rfl, ⟨nd, rfl⟩⟩; (try first | exact ⟨rfl, _, World.drewN_drewN _ _ _⟩ | exact ⟨rfl, _, Eq.trans (World.drewN_drewN _ _ _) (congrArg (World.drewN _) (Nat.add_assoc _ _ _))⟩)) | (go_at_call 37; (with_reducible refine (backstepref02_digit.calls (bt a0 x7_1) t129 _ A35.out).mono ?_); rintro e w' ⟨rfl, ⟨nd, rfl⟩⟩; (try first | exact ⟨rfl, _, World.drewN_drewN _ _ _⟩ | exact ⟨rfl, _, Eq.trans (World.drewN_drewN _ _ _) (congrArg (World.drewN _) (Nat.add_assoc _ _ _))⟩))))
                              go_roundg k1
                              case measure => have := HK1.out; omega
                              case rel => have E_ : t128 = t129 := Option.some.inj (A33.out.symm.trans A35.out); exact ⟨(t128), (t129), (true), (false), (wrap64 (x7_1 + 1)), (by first | rfl | (simp; done) | (simp [*]; done)), (by first | rfl | (simp; done) | (simp [*]; done)), (by first | rfl | (simp; done) | (simp [*]; done)), (by first | rfl | (simp; done) | (simp [*]; done)), (by first | rfl | (simp; done) | (simp [*]; done)), H', ⟨by have := HK1.out; omega⟩, ⟨by repeat (first | (with_reducible first | exact HB.out | apply below_alloc | apply pw_below_drewN | apply below_drew1) | exact HB.out)⟩⟩
                          · rw [if_neg c41] at H
                            have c41b0 : ((bt a0 x7_1) == 13) = false := beq_eq_false_iff_ne.mpr c41
                            have c41b1 : ((bt a0 x7_1) != 13) = true := bne_iff_ne.mpr c41
                            by_cases c43 : x6_1 = true
                            · subst c43
                              have H1 : (backstepref02_Kind.l0 k1 a0 t128 t129 ((bt a0 x7_1) == 10) ((bt a0 x7_1) != 10) (wrap64 (x7_1 + 1))) = some r := by rw [if_pos rfl] at H; exact H
                              clear H
                              have H := H1
                              clear H1
                              have H' := Aside0.mk H
                              clear H
                              have p9 : 0 ≤ (x7_1 : Int) := of_decide_eq_true (by first | (with_reducible assumption) | assumption)
                              have q9 : x7_1 < (a0.size : Int) := of_decide_eq_true (by first | (with_reducible assumption) | assumption)
                              have hx9 := bt_at a0 x7_1
                              replace p9 := eq_true p9
                              replace q9 := eq_true q9
                              go_wp2_with (first | (go_at_call 36; (with_reducible refine (backstepref02_letter.calls (bt a0 x7_1) false _ A11.out).mono ?_); rintro e w' ⟨rfl, ⟨nd, rfl⟩⟩; (try first | exact ⟨rfl, _, World.drewN_drewN _ _ _⟩ | exact ⟨rfl, _, Eq.trans (World.drewN_drewN _ _ _) (congrArg (World.drewN _) (Nat.add_assoc _ _ _))⟩)) | (go_at_call 37; (with_reducible refine (backstepref02_digit.calls (bt a0 x7_1) t128 _ A33.out).mono ?_); rintro e w' ⟨rfl, ⟨nd, rfl⟩⟩; (try first | exact ⟨rfl, _, World.drewN_drewN _ _ _⟩ | exact ⟨rfl, _, Eq.trans (World.drewN_drewN _ _ _) (congrArg (World.drewN _) (Nat.add_assoc _ _ _))⟩)) | (go_at_call 37; (with_reducible refine (backstepref02_digit.calls (bt a0 x7_1) t129 _ A35.out).mono ?_); rintro e w' ⟨rfl, ⟨nd, rfl⟩⟩; (try first | exact ⟨rfl, _, World.drewN_drewN _ _ _⟩ | exact ⟨rfl, _, Eq.trans (World.drewN_drewN _ _ _) (congrArg (World.drewN _) (Nat.add_assoc _ _ _))⟩)))
                              repeat (go_quiet (first | (go_at_call 36; (with_reducible refine (backstepref02_letter.calls (bt a0 x7_1) false _ A11.out).mono ?_); rintro e w' ⟨rfl, ⟨nd, rfl⟩⟩; (try first | exact ⟨rfl, _, World.drewN_drewN _ _ _⟩ | exact ⟨rfl, _, Eq.trans (World.drewN_drewN _ _ _) (congrArg (World.drewN _) (Nat.add_assoc _ _ _))⟩)) | (go_at_call 37; (with_reducible refine (backstepref02_digit.calls (bt a0 x7_1) t128 _ A33.out).mono ?_); rintro e w' ⟨rfl, ⟨nd, rfl⟩⟩; (try first | exact ⟨rfl, _, World.drewN_drewN _ _ _⟩ | exact ⟨rfl, _, Eq.trans (World.drewN_drewN _ _ _) (congrArg (World.drewN _) (Nat.add_assoc _ _ _))⟩)) | (go_at_call 37; (with_reducible refine (backstepref02_digit.calls (bt a0 x7_1) t129 _ A35.out).mono ?_); rintro e w' ⟨rfl, ⟨nd, rfl⟩⟩; (try first | exact ⟨rfl, _, World.drewN_drewN _ _ _⟩ | exact ⟨rfl, _, Eq.trans (World.drewN_drewN _ _ _) (congrArg (World.drewN _) (Nat.add_assoc _ _ _))⟩))); try go_wp2_with (first | (go_at_call 36; (with_reducible refine (backstepref02_letter.calls (bt a0 x7_1) false _ A11.out).mono ?_); rintro e w' ⟨rfl, ⟨nd, rfl⟩⟩; (try first | exact ⟨rfl, _, World.drewN_drewN _ _ _⟩ | exact ⟨rfl, _, Eq.trans (World.drewN_drewN _ _ _) (congrArg (World.drewN _) (Nat.add_assoc _ _ _))⟩)) | (go_at_call 37; (with_reducible refine (backstepref02_digit.calls (bt a0 x7_1) t128 _ A33.out).mono ?_); rintro e w' ⟨rfl, ⟨nd, rfl⟩⟩; (try first | exact ⟨rfl, _, World.drewN_drewN _ _ _⟩ | exact ⟨rfl, _, Eq.trans (World.drewN_drewN _ _ _) (congrArg (World.drewN _) (Nat.add_assoc _ _ _))⟩)) | (go_at_call 37; (with_reducible refine (backstepref02_digit.calls (bt a0 x7_1) t129 _ A35.out).mono ?_); rintro e w' ⟨rfl, ⟨nd, rfl⟩⟩; (try first | exact ⟨rfl, _, World.drewN_drewN _ _ _⟩ | exact ⟨rfl, _, Eq.trans (World.drewN_drewN _ _ _) (congrArg (World.drewN _) (Nat.add_assoc _ _ _))⟩))))
                              go_roundg k1
                              case measure => have := HK1.out; omega
                              case rel => have E_ : t128 = t129 := Option.some.inj (A33.out.symm.trans A35.out); exact ⟨(t128), (t129), (((bt a0 x7_1) == 10)), (((bt a0 x7_1) != 10)), (wrap64 (x7_1 + 1)), (by first | rfl | (simp; done) | (simp [*]; done)), (by first | rfl | (simp; done) | (simp [*]; done)), (by first | rfl | (simp; done) | (simp [*]; done)), (by first | rfl | (simp; done) | (simp [*]; done)), (by first | rfl | (simp; done) | (simp [*]; done)), H', ⟨by have := HK1.out; omega⟩, ⟨by repeat (first | (with_reducible first | exact HB.out | apply below_alloc | apply pw_below_drewN | apply below_drew1) | exact HB.out)⟩⟩
                            · replace c43 := Bool.eq_false_iff.mpr c43
                              subst c43
                              have H1 : (backstepref02_Kind.l0 k1 a0 t128 t129 ((bt a0 x7_1) == 10) false (wrap64 (x7_1 + 1))) = some r := by rw [if_neg (show ¬ (false = true) by decide)] at H; exact H
                              clear H
                              have H := H1
                              clear H1
                              have H' := Aside0.mk H
                              clear H
                              have p9 : 0 ≤ (x7_1 : Int) := of_decide_eq_true (by first | (with_reducible assumption) | assumption)
                              have q9 : x7_1 < (a0.size : Int) := of_decide_eq_true (by first | (with_reducible assumption) | assumption)
                              have hx9 := bt_at a0 x7_1
                              replace p9 := eq_true p9
                              replace q9 := eq_true q9
                              go_wp2_with (first | (go_at_call 36; (with_reducible refine (backstepref02_letter.calls (bt a0 x7_1) false _ A11.out).mono ?_); rintro e w' ⟨rfl, ⟨nd, rfl⟩⟩; (try first | exact ⟨rfl, _, World.drewN_drewN _ _ _⟩ | exact ⟨rfl, _, Eq.trans (World.drewN_drewN _ _ _) (congrArg (World.drewN _) (Nat.add_assoc _ _ _))⟩)) | (go_at_call 37; (with_reducible refine (backstepref02_digit.calls (bt a0 x7_1) t128 _ A33.out).mono ?_); rintro e w' ⟨rfl, ⟨nd, rfl⟩⟩; (try first | exact ⟨rfl, _, World.drewN_drewN _ _ _⟩ | exact ⟨rfl, _, Eq.trans (World.drewN_drewN _ _ _) (congrArg (World.drewN _) (Nat.add_assoc _ _ _))⟩)) | (go_at_call 37; (with_reducible refine (backstepref02_digit.calls (bt a0 x7_1) t129 _ A35.out).mono ?_); rintro e w' ⟨rfl, ⟨nd, rfl⟩⟩; (try first | exact ⟨rfl, _, World.drewN_drewN _ _ _⟩ | exact ⟨rfl, _, Eq.trans (World.drewN_drewN _ _ _) (congrArg (World.drewN _) (Nat.add_assoc _ _ _))⟩)))
                              repeat (go_quiet (first | (go_at_call 36; (with_reducible refine (backstepref02_letter.calls (bt a0 x7_1) false _ A11.out).mono ?_); rintro e w' ⟨rfl, ⟨nd, rfl⟩⟩; (try first | exact ⟨rfl, _, World.drewN_drewN _ _ _⟩ | exact ⟨rfl, _, Eq.trans (World.drewN_drewN _ _ _) (congrArg (World.drewN _) (Nat.add_assoc _ _ _))⟩)) | (go_at_call 37; (with_reducible refine (backstepref02_digit.calls (bt a0 x7_1) t128 _ A33.out).mono ?_); rintro e w' ⟨rfl, ⟨nd, rfl⟩⟩; (try first | exact ⟨rfl, _, World.drewN_drewN _ _ _⟩ | exact ⟨rfl, _, Eq.trans (World.drewN_drewN _ _ _) (congrArg (World.drewN _) (Nat.add_assoc _ _ _))⟩)) | (go_at_call 37; (with_reducible refine (backstepref02_digit.calls (bt a0 x7_1) t129 _ A35.out).mono ?_); rintro e w' ⟨rfl, ⟨nd, rfl⟩⟩; (try first | exact ⟨rfl, _, World.drewN_drewN _ _ _⟩ | exact ⟨rfl, _, Eq.trans (World.drewN_drewN _ _ _) (congrArg (World.drewN _) (Nat.add_assoc _ _ _))⟩))); try go_wp2_with (first | (go_at_call 36; (with_reducible refine (backstepref02_letter.calls (bt a0 x7_1) false _ A11.out).mono ?_); rintro e w' ⟨rfl, ⟨nd, rfl⟩⟩; (try first | exact ⟨rfl, _, World.drewN_drewN _ _ _⟩ | exact ⟨rfl, _, Eq.trans (World.drewN_drewN _ _ _) (congrArg (World.drewN _) (Nat.add_assoc _ _ _))⟩)) | (go_at_call 37; (with_reducible refine (backstepref02_digit.calls (bt a0 x7_1) t128 _ A33.out).mono ?_); rintro e w' ⟨rfl, ⟨nd, rfl⟩⟩; (try first | exact ⟨rfl, _, World.drewN_drewN _ _ _⟩ | exact ⟨rfl, _, Eq.trans (World.drewN_drewN _ _ _) (congrArg (World.drewN _) (Nat.add_assoc _ _ _))⟩)) | (go_at_call 37; (with_reducible refine (backstepref02_digit.calls (bt a0 x7_1) t129 _ A35.out).mono ?_); rintro e w' ⟨rfl, ⟨nd, rfl⟩⟩; (try first | exact ⟨rfl, _, World.drewN_drewN _ _ _⟩ | exact ⟨rfl, _, Eq.trans (World.drewN_drewN _ _ _) (congrArg (World.drewN _) (Nat.add_assoc _ _ _))⟩))))
                              go_roundg k1
                              case measure => have := HK1.out; omega
                              case rel => have E_ : t128 = t129 := Option.some.inj (A33.out.symm.trans A35.out); exact ⟨(t128), (t129), (((bt a0 x7_1) == 10)), (false), (wrap64 (x7_1 + 1)), (by first | rfl | (simp; done) | (simp [*]; done)), (by first | rfl | (simp; done) | (simp [*]; done)), (by first | rfl | (simp; done) | (simp [*]; done)), (by first | rfl | (simp; done) | (simp [*]; done)), (by first | rfl | (simp; done) | (simp [*]; done)), H', ⟨by have := HK1.out; omega⟩, ⟨by repeat (first | (with_reducible first | exact HB.out | apply below_alloc | apply pw_below_drewN | apply below_drew1) | exact HB.out)⟩⟩
                    · replace c36 := Bool.eq_false_iff.mpr c36
                      subst c36
                      have H1 : (if x6_1 = true then (backstepref02_Kind.l0 k1 a0 t128 t129 false ((bt a0 x7_1) != 10) (wrap64 (x7_1 + 1))) else (backstepref02_Kind.l0 k1 a0 t128 t129 false false (wrap64 (x7_1 + 1)))) = some r := by rw [if_neg (show ¬ (false = true) by decide)] at H; exact H
                      clear H
                      have H := H1
                      clear H1
                      by_cases c44 : x6_1 = true
                      · subst c44
                        have H1 : (backstepref02_Kind.l0 k1 a0 t128 t129 false ((bt a0 x7_1) != 10) (wrap64 (x7_1 + 1))) = some r := by rw [if_pos rfl] at H; exact H
                        clear H
                        have H := H1
                        clear H1
                        have H' := Aside0.mk H
                        clear H
                        have p9 : 0 ≤ (x7_1 : Int) := of_decide_eq_true (by first | (with_reducible assumption) | assumption)
                        have q9 : x7_1 < (a0.size : Int) := of_decide_eq_true (by first | (with_reducible assumption) | assumption)
                        have hx9 := bt_at a0 x7_1
                        replace p9 := eq_true p9
                        replace q9 := eq_true q9
                        go_wp2_with (first | (go_at_call 36; (with_reducible refine (backstepref02_letter.calls (bt a0 x7_1) false _ A11.out).mono ?_); rintro e w' ⟨rfl, ⟨nd, rfl⟩⟩; (try first | exact ⟨rfl, _, World.drewN_drewN _ _ _⟩ | exact ⟨rfl, _, Eq.trans (World.drewN_drewN _ _ _) (congrArg (World.drewN _) (Nat.add_assoc _ _ _))⟩)) | (go_at_call 37; (with_reducible refine (backstepref02_digit.calls (bt a0 x7_1) t128 _ A33.out).mono ?_); rintro e w' ⟨rfl, ⟨nd, rfl⟩⟩; (try first | exact ⟨rfl, _, World.drewN_drewN _ _ _⟩ | exact ⟨rfl, _, Eq.trans (World.drewN_drewN _ _ _) (congrArg (World.drewN _) (Nat.add_assoc _ _ _))⟩)) | (go_at_call 37; (with_reducible refine (backstepref02_digit.calls (bt a0 x7_1) t129 _ A35.out).mono ?_); rintro e w' ⟨rfl, ⟨nd, rfl⟩⟩; (try first | exact ⟨rfl, _, World.drewN_drewN _ _ _⟩ | exact ⟨rfl, _, Eq.trans (World.drewN_drewN _ _ _) (congrArg (World.drewN _) (Nat.add_assoc _ _ _))⟩)))
                        repeat (go_quiet (first | (go_at_call 36; (with_reducible refine (backstepref02_letter.calls (bt a0 x7_1) false _ A11.out).mono ?_); rintro e w' ⟨rfl, ⟨nd, rfl⟩⟩; (try first | exact ⟨rfl, _, World.drewN_drewN _ _ _⟩ | exact ⟨rfl, _, Eq.trans (World.drewN_drewN _ _ _) (congrArg (World.drewN _) (Nat.add_assoc _ _ _))⟩)) | (go_at_call 37; (with_reducible refine (backstepref02_digit.calls (bt a0 x7_1) t128 _ A33.out).mono ?_); rintro e w' ⟨rfl, ⟨nd, rfl⟩⟩; (try first | exact ⟨rfl, _, World.drewN_drewN _ _ _⟩ | exact ⟨rfl, _, Eq.trans (World.drewN_drewN _ _ _) (congrArg (World.drewN _) (Nat.add_assoc _ _ _))⟩)) | (go_at_call 37; (with_reducible refine (backstepref02_digit.calls (bt a0 x7_1) t129 _ A35.out).mono ?_); rintro e w' ⟨rfl, ⟨nd, rfl⟩⟩; (try first | exact ⟨rfl, _, World.drewN_drewN _ _ _⟩ | exact ⟨rfl, _, Eq.trans (World.drewN_drewN _ _ _) (congrArg (World.drewN _) (Nat.add_assoc _ _ _))⟩))); try go_wp2_with (first | (go_at_call 36; (with_reducible refine (backstepref02_letter.calls (bt a0 x7_1) false _ A11.out).mono ?_); rintro e w' ⟨rfl, ⟨nd, rfl⟩⟩; (try first | exact ⟨rfl, _, World.drewN_drewN _ _ _⟩ | exact ⟨rfl, _, Eq.trans (World.drewN_drewN _ _ _) (congrArg (World.drewN _) (Nat.add_assoc _ _ _))⟩)) | (go_at_call 37; (with_reducible refine (backstepref02_digit.calls (bt a0 x7_1) t128 _ A33.out).mono ?_); rintro e w' ⟨rfl, ⟨nd, rfl⟩⟩; (try first | exact ⟨rfl, _, World.drewN_drewN _ _ _⟩ | exact ⟨rfl, _, Eq.trans (World.drewN_drewN _ _ _) (congrArg (World.drewN _) (Nat.add_assoc _ _ _))⟩)) | (go_at_call 37; (with_reducible refine (backstepref02_digit.calls (bt a0 x7_1) t129 _ A35.out).mono ?_); rintro e w' ⟨rfl, ⟨nd, rfl⟩⟩; (try first | exact ⟨rfl, _, World.drewN_drewN _ _ _⟩ | exact ⟨rfl, _, Eq.trans (World.drewN_drewN _ _ _) (congrArg (World.drewN _) (Nat.add_assoc _ _ _))⟩))))
                        go_roundg k1
                        case measure => have := HK1.out; omega
                        case rel => have E_ : t128 = t129 := Option.some.inj (A33.out.symm.trans A35.out); exact ⟨(t128), (t129), (false), (((bt a0 x7_1) != 10)), (wrap64 (x7_1 + 1)), (by first | rfl | (simp; done) | (simp [*]; done)), (by first | rfl | (simp; done) | (simp [*]; done)), (by first | rfl | (simp; done) | (simp [*]; done)), (by first | rfl | (simp; done) | (simp [*]; done)), (by first | rfl | (simp; done) | (simp [*]; done)), H', ⟨by have := HK1.out; omega⟩, ⟨by repeat (first | (with_reducible first | exact HB.out | apply below_alloc | apply pw_below_drewN | apply below_drew1) | exact HB.out)⟩⟩
                      · replace c44 := Bool.eq_false_iff.mpr c44
                        subst c44
                        have H1 : (backstepref02_Kind.l0 k1 a0 t128 t129 false false (wrap64 (x7_1 + 1))) = some r := by rw [if_neg (show ¬ (false = true) by decide)] at H; exact H
                        clear H
                        have H := H1
                        clear H1
                        have H' := Aside0.mk H
                        clear H
                        have p9 : 0 ≤ (x7_1 : Int) := of_decide_eq_true (by first | (with_reducible assumption) | assumption)
                        have q9 : x7_1 < (a0.size : Int) := of_decide_eq_true (by first | (with_reducible assumption) | assumption)
                        have hx9 := bt_at a0 x7_1
                        replace p9 := eq_true p9
                        replace q9 := eq_true q9
                        go_wp2_with (first | (go_at_call 36; (with_reducible refine (backstepref02_letter.calls (bt a0 x7_1) false _ A11.out).mono ?_); rintro e w' ⟨rfl, ⟨nd, rfl⟩⟩; (try first | exact ⟨rfl, _, World.drewN_drewN _ _ _⟩ | exact ⟨rfl, _, Eq.trans (World.drewN_drewN _ _ _) (congrArg (World.drewN _) (Nat.add_assoc _ _ _))⟩)) | (go_at_call 37; (with_reducible refine (backstepref02_digit.calls (bt a0 x7_1) t128 _ A33.out).mono ?_); rintro e w' ⟨rfl, ⟨nd, rfl⟩⟩; (try first | exact ⟨rfl, _, World.drewN_drewN _ _ _⟩ | exact ⟨rfl, _, Eq.trans (World.drewN_drewN _ _ _) (congrArg (World.drewN _) (Nat.add_assoc _ _ _))⟩)) | (go_at_call 37; (with_reducible refine (backstepref02_digit.calls (bt a0 x7_1) t129 _ A35.out).mono ?_); rintro e w' ⟨rfl, ⟨nd, rfl⟩⟩; (try first | exact ⟨rfl, _, World.drewN_drewN _ _ _⟩ | exact ⟨rfl, _, Eq.trans (World.drewN_drewN _ _ _) (congrArg (World.drewN _) (Nat.add_assoc _ _ _))⟩)))
                        repeat (go_quiet (first | (go_at_call 36; (with_reducible refine (backstepref02_letter.calls (bt a0 x7_1) false _ A11.out).mono ?_); rintro e w' ⟨rfl, ⟨nd, rfl⟩⟩; (try first | exact ⟨rfl, _, World.drewN_drewN _ _ _⟩ | exact ⟨rfl, _, Eq.trans (World.drewN_drewN _ _ _) (congrArg (World.drewN _) (Nat.add_assoc _ _ _))⟩)) | (go_at_call 37; (with_reducible refine (backstepref02_digit.calls (bt a0 x7_1) t128 _ A33.out).mono ?_); rintro e w' ⟨rfl, ⟨nd, rfl⟩⟩; (try first | exact ⟨rfl, _, World.drewN_drewN _ _ _⟩ | exact ⟨rfl, _, Eq.trans (World.drewN_drewN _ _ _) (congrArg (World.drewN _) (Nat.add_assoc _ _ _))⟩)) | (go_at_call 37; (with_reducible refine (backstepref02_digit.calls (bt a0 x7_1) t129 _ A35.out).mono ?_); rintro e w' ⟨rfl, ⟨nd, rfl⟩⟩; (try first | exact ⟨rfl, _, World.drewN_drewN _ _ _⟩ | exact ⟨rfl, _, Eq.trans (World.drewN_drewN _ _ _) (congrArg (World.drewN _) (Nat.add_assoc _ _ _))⟩))); try go_wp2_with (first | (go_at_call 36; (with_reducible refine (backstepref02_letter.calls (bt a0 x7_1) false _ A11.out).mono ?_); rintro e w' ⟨rfl, ⟨nd, rfl⟩⟩; (try first | exact ⟨rfl, _, World.drewN_drewN _ _ _⟩ | exact ⟨rfl, _, Eq.trans (World.drewN_drewN _ _ _) (congrArg (World.drewN _) (Nat.add_assoc _ _ _))⟩)) | (go_at_call 37; (with_reducible refine (backstepref02_digit.calls (bt a0 x7_1) t128 _ A33.out).mono ?_); rintro e w' ⟨rfl, ⟨nd, rfl⟩⟩; (try first | exact ⟨rfl, _, World.drewN_drewN _ _ _⟩ | exact ⟨rfl, _, Eq.trans (World.drewN_drewN _ _ _) (congrArg (World.drewN _) (Nat.add_assoc _ _ _))⟩)) | (go_at_call 37; (with_reducible refine (backstepref02_digit.calls (bt a0 x7_1) t129 _ A35.out).mono ?_); rintro e w' ⟨rfl, ⟨nd, rfl⟩⟩; (try first | exact ⟨rfl, _, World.drewN_drewN _ _ _⟩ | exact ⟨rfl, _, Eq.trans (World.drewN_drewN _ _ _) (congrArg (World.drewN _) (Nat.add_assoc _ _ _))⟩))))
                        go_roundg k1
                        case measure => have := HK1.out; omega
                        case rel => have E_ : t128 = t129 := Option.some.inj (A33.out.symm.trans A35.out); exact ⟨(t128), (t129), (false), (false), (wrap64 (x7_1 + 1)), (by first | rfl | (simp; done) | (simp [*]; done)), (by first | rfl | (simp; done) | (simp [*]; done)), (by first | rfl | (simp; done) | (simp [*]; done)), (by first | rfl | (simp; done) | (simp [*]; done)), (by first | rfl | (simp; done) | (simp [*]; done)), H', ⟨by have := HK1.out; omega⟩, ⟨by repeat (first | (with_reducible first | exact HB.out | apply below_alloc | apply pw_below_drewN | apply below_drew1) | exact HB.out)⟩⟩
                  · replace c34 := Bool.eq_false_iff.mpr c34
                    subst c34
                    have H1 : (if x5_1 = true then (if (bt a0 x7_1) = 32 then (if x6_1 = true then (backstepref02_Kind.l0 k1 a0 t128 false true ((bt a0 x7_1) != 10) (wrap64 (x7_1 + 1))) else (backstepref02_Kind.l0 k1 a0 t128 false true false (wrap64 (x7_1 + 1)))) else (if (bt a0 x7_1) = 9 then (if x6_1 = true then (backstepref02_Kind.l0 k1 a0 t128 false true ((bt a0 x7_1) != 10) (wrap64 (x7_1 + 1))) else (backstepref02_Kind.l0 k1 a0 t128 false true false (wrap64 (x7_1 + 1)))) else (if (bt a0 x7_1) = 13 then (if x6_1 = true then (backstepref02_Kind.l0 k1 a0 t128 false true ((bt a0 x7_1) != 10) (wrap64 (x7_1 + 1))) else (backstepref02_Kind.l0 k1 a0 t128 false true false (wrap64 (x7_1 + 1)))) else (if x6_1 = true then (backstepref02_Kind.l0 k1 a0 t128 false ((bt a0 x7_1) == 10) ((bt a0 x7_1) != 10) (wrap64 (x7_1 + 1))) else (backstepref02_Kind.l0 k1 a0 t128 false ((bt a0 x7_1) == 10) false (wrap64 (x7_1 + 1))))))) else (if x6_1 = true then (backstepref02_Kind.l0 k1 a0 t128 false false ((bt a0 x7_1) != 10) (wrap64 (x7_1 + 1))) else (backstepref02_Kind.l0 k1 a0 t128 false false false (wrap64 (x7_1 + 1))))) = some r := by rw [if_neg (show ¬ (false = true) by decide)] at H; exact H
                    clear H
                    have H := H1
                    clear H1
                    by_cases c45 : x5_1 = true
                    · subst c45
                      have H1 : (if (bt a0 x7_1) = 32 then (if x6_1 = true then (backstepref02_Kind.l0 k1 a0 t128 false true ((bt a0 x7_1) != 10) (wrap64 (x7_1 + 1))) else (backstepref02_Kind.l0 k1 a0 t128 false true false (wrap64 (x7_1 + 1)))) else (if (bt a0 x7_1) = 9 then (if x6_1 = true then (backstepref02_Kind.l0 k1 a0 t128 false true ((bt a0 x7_1) != 10) (wrap64 (x7_1 + 1))) else (backstepref02_Kind.l0 k1 a0 t128 false true false (wrap64 (x7_1 + 1)))) else (if (bt a0 x7_1) = 13 then (if x6_1 = true then (backstepref02_Kind.l0 k1 a0 t128 false true ((bt a0 x7_1) != 10) (wrap64 (x7_1 + 1))) else (backstepref02_Kind.l0 k1 a0 t128 false true false (wrap64 (x7_1 + 1)))) else (if x6_1 = true then (backstepref02_Kind.l0 k1 a0 t128 false ((bt a0 x7_1) == 10) ((bt a0 x7_1) != 10) (wrap64 (x7_1 + 1))) else (backstepref02_Kind.l0 k1 a0 t128 false ((bt a0 x7_1) == 10) false (wrap64 (x7_1 + 1))))))) = some r := by rw [if_pos rfl] at H; exact H
                      clear H
                      have H := H1
                      clear H1
                      by_cases c46 : (bt a0 x7_1) = 32
                      · rw [if_pos c46] at H
                        have c46b0 : ((bt a0 x7_1) == 32) = true := beq_iff_eq.mpr c46
                        have c46b1 : ((bt a0 x7_1) != 32) = false := bne_eq_false_iff_eq.mpr c46
                        clear c46
                        by_cases c47 : x6_1 = true
                        · subst c47
                          have H1 : (backstepref02_Kind.l0 k1 a0 t128 false true ((bt a0 x7_1) != 10) (wrap64 (x7_1 + 1))) = some r := by rw [if_pos rfl] at H; exact H
                          clear H
                          have H := H1
                          clear H1
                          have H' := Aside0.mk H
                          clear H
                          have p9 : 0 ≤ (x7_1 : Int) := of_decide_eq_true (by first | (with_reducible assumption) | assumption)
                          have q9 : x7_1 < (a0.size : Int) := of_decide_eq_true (by first | (with_reducible assumption) | assumption)
                          have hx9 := bt_at a0 x7_1
                          replace p9 := eq_true p9
                          replace q9 := eq_true q9
                          go_wp2_with (first | (go_at_call 36; (with_reducible refine (backstepref02_letter.calls (bt a0 x7_1) false _ A11.out).mono ?_); rintro e w' ⟨rfl, ⟨nd, rfl⟩⟩; (try first | exact ⟨rfl, _, World.drewN_drewN _ _ _⟩ | exact ⟨rfl, _, Eq.trans (World.drewN_drewN _ _ _) (congrArg (World.drewN _) (Nat.add_assoc _ _ _))⟩)) | (go_at_call 37; (with_reducible refine (backstepref02_digit.calls (bt a0 x7_1) t128 _ A33.out).mono ?_); rintro e w' ⟨rfl, ⟨nd, rfl⟩⟩; (try first | exact ⟨rfl, _, World.drewN_drewN _ _ _⟩ | exact ⟨rfl, _, Eq.trans (World.drewN_drewN _ _ _) (congrArg (World.drewN _) (Nat.add_assoc _ _ _))⟩)))
                          repeat (go_quiet (first | (go_at_call 36; (with_reducible refine (backstepref02_letter.calls (bt a0 x7_1) false _ A11.out).mono ?_); rintro e w' ⟨rfl, ⟨nd, rfl⟩⟩; (try first | exact ⟨rfl, _, World.drewN_drewN _ _ _⟩ | exact ⟨rfl, _, Eq.trans (World.drewN_drewN _ _ _) (congrArg (World.drewN _) (Nat.add_assoc _ _ _))⟩)) | (go_at_call 37; (with_reducible refine (backstepref02_digit.calls (bt a0 x7_1) t128 _ A33.out).mono ?_); rintro e w' ⟨rfl, ⟨nd, rfl⟩⟩; (try first | exact ⟨rfl, _, World.drewN_drewN _ _ _⟩ | exact ⟨rfl, _, Eq.trans (World.drewN_drewN _ _ _) (congrArg (World.drewN _) (Nat.add_assoc _ _ _))⟩))); try go_wp2_with (first | (go_at_call 36; (with_reducible refine (backstepref02_letter.calls (bt a0 x7_1) false _ A11.out).mono ?_); rintro e w' ⟨rfl, ⟨nd, rfl⟩⟩; (try first | exact ⟨rfl, _, World.drewN_drewN _ _ _⟩ | exact ⟨rfl, _, Eq.trans (World.drewN_drewN _ _ _) (congrArg (World.drewN _) (Nat.add_assoc _ _ _))⟩)) | (go_at_call 37; (with_reducible refine (backstepref02_digit.calls (bt a0 x7_1) t128 _ A33.out).mono ?_); rintro e w' ⟨rfl, ⟨nd, rfl⟩⟩; (try first | exact ⟨rfl, _, World.drewN_drewN _ _ _⟩ | exact ⟨rfl, _, Eq.trans (World.drewN_drewN _ _ _) (congrArg (World.drewN _) (Nat.add_assoc _ _ _))⟩))))
                          go_roundg k1
                          case measure => have := HK1.out; omega
                          case rel => exact ⟨(t128), (false), (true), (((bt a0 x7_1) != 10)), (wrap64 (x7_1 + 1)), (by first | rfl | (simp; done) | (simp [*]; done)), (by first | rfl | (simp; done) | (simp [*]; done)), (by first | rfl | (simp; done) | (simp [*]; done)), (by first | rfl | (simp; done) | (simp [*]; done)), (by first | rfl | (simp; done) | (simp [*]; done)), H', ⟨by have := HK1.out; omega⟩, ⟨by repeat (first | (with_reducible first | exact HB.out | apply below_alloc | apply pw_below_drewN | apply below_drew1) | exact HB.out)⟩⟩
                        · replace c47 := Bool.eq_false_iff.mpr c47
                          subst c47
                          have H1 : (backstepref02_Kind.l0 k1 a0 t128 false true false (wrap64 (x7_1 + 1))) = some r := by rw [if_neg (show ¬ (false = true) by decide)] at H; exact H
                          clear H
                          have H := H1
                          clear H1
                          have H' := Aside0.mk H
                          clear H
                          have p9 : 0 ≤ (x7_1 : Int) := of_decide_eq_true (by first | (with_reducible assumption) | assumption)
                          have q9 : x7_1 < (a0.size : Int) := of_decide_eq_true (by first | (with_reducible assumption) | assumption)
                          have hx9 := bt_at a0 x7_1
                          replace p9 := eq_true p9
                          replace q9 := eq_true q9
                          go_wp2_with (first | (go_at_call 36; (with_reducible refine (backstepref02_letter.calls (bt a0 x7_1) false _ A11.out).mono ?_); rintro e w' ⟨rfl, ⟨nd, rfl⟩⟩; (try first | exact ⟨rfl, _, World.drewN_drewN _ _ _⟩ | exact ⟨rfl, _, Eq.trans (World.drewN_drewN _ _ _) (congrArg (World.drewN _) (Nat.add_assoc _ _ _))⟩)) | (go_at_call 37; (with_reducible refine (backstepref02_digit.calls (bt a0 x7_1) t128 _ A33.out).mono ?_); rintro e w' ⟨rfl, ⟨nd, rfl⟩⟩; (try first | exact ⟨rfl, _, World.drewN_drewN _ _ _⟩ | exact ⟨rfl, _, Eq.trans (World.drewN_drewN _ _ _) (congrArg (World.drewN _) (Nat.add_assoc _ _ _))⟩)))
                          repeat (go_quiet (first | (go_at_call 36; (with_reducible refine (backstepref02_letter.calls (bt a0 x7_1) false _ A11.out).mono ?_); rintro e w' ⟨rfl, ⟨nd, rfl⟩⟩; (try first | exact ⟨rfl, _, World.drewN_drewN _ _ _⟩ | exact ⟨rfl, _, Eq.trans (World.drewN_drewN _ _ _) (congrArg (World.drewN _) (Nat.add_assoc _ _ _))⟩)) | (go_at_call 37; (with_reducible refine (backstepref02_digit.calls (bt a0 x7_1) t128 _ A33.out).mono ?_); rintro e w' ⟨rfl, ⟨nd, rfl⟩⟩; (try first | exact ⟨rfl, _, World.drewN_drewN _ _ _⟩ | exact ⟨rfl, _, Eq.trans (World.drewN_drewN _ _ _) (congrArg (World.drewN _) (Nat.add_assoc _ _ _))⟩))); try go_wp2_with (first | (go_at_call 36; (with_reducible refine (backstepref02_letter.calls (bt a0 x7_1) false _ A11.out).mono ?_); rintro e w' ⟨rfl, ⟨nd, rfl⟩⟩; (try first | exact ⟨rfl, _, World.drewN_drewN _ _ _⟩ | exact ⟨rfl, _, Eq.trans (World.drewN_drewN _ _ _) (congrArg (World.drewN _) (Nat.add_assoc _ _ _))⟩)) | (go_at_call 37; (with_reducible refine (backstepref02_digit.calls (bt a0 x7_1) t128 _ A33.out).mono ?_); rintro e w' ⟨rfl, ⟨nd, rfl⟩⟩; (try first | exact ⟨rfl, _, World.drewN_drewN _ _ _⟩ | exact ⟨rfl, _, Eq.trans (World.drewN_drewN _ _ _) (congrArg (World.drewN _) (Nat.add_assoc _ _ _))⟩))))
                          go_roundg k1
                          case measure => have := HK1.out; omega
                          case rel => exact ⟨(t128), (false), (true), (false), (wrap64 (x7_1 + 1)), (by first | rfl | (simp; done) | (simp [*]; done)), (by first | rfl | (simp; done) | (simp [*]; done)), (by first | rfl | (simp; done) | (simp [*]; done)), (by first | rfl | (simp; done) | (simp [*]; done)), (by first | rfl | (simp; done) | (simp [*]; done)), H', ⟨by have := HK1.out; omega⟩, ⟨by repeat (first | (with_reducible first | exact HB.out | apply below_alloc | apply pw_below_drewN | apply below_drew1) | exact HB.out)⟩⟩
                      · rw [if_neg c46] at H
                        have c46b0 : ((bt a0 x7_1) == 32) = false := beq_eq_false_iff_ne.mpr c46
                        have c46b1 : ((bt a0 x7_1) != 32) = true := bne_iff_ne.mpr c46
                        by_cases c48 : (bt a0 x7_1) = 9
                        · rw [if_pos c48] at H
                          have c48b0 : ((bt a0 x7_1) == 9) = true := beq_iff_eq.mpr c48
                          have c48b1 : ((bt a0 x7_1) != 9) = false := bne_eq_false_iff_eq.mpr c48
                          clear c48
                          by_cases c49 : x6_1 = true
                          · subst c49
                            have H1 : (backstepref02_Kind.l0 k1 a0 t128 false true ((bt a0 x7_1) != 10) (wrap64 (x7_1 + 1))) = some r := by rw [if_pos rfl] at H; exact H
                            clear H
                            have H := H1
                            clear H1
                            have H' := Aside0.mk H
                            clear H
                            have p9 : 0 ≤ (x7_1 : Int) := of_decide_eq_true (by first | (with_reducible assumption) | assumption)
                            have q9 : x7_1 < (a0.size : Int) := of_decide_eq_true (by first | (with_reducible assumption) | assumption)
                            have hx9 := bt_at a0 x7_1
                            replace p9 := eq_true p9
                            replace q9 := eq_true q9
                            go_wp2_with (first | (go_at_call 36; (with_reducible refine (backstepref02_letter.calls (bt a0 x7_1) false _ A11.out).mono ?_); rintro e w' ⟨rfl, ⟨nd, rfl⟩⟩; (try first | exact ⟨rfl, _, World.drewN_drewN _ _ _⟩ | exact ⟨rfl, _, Eq.trans (World.drewN_drewN _ _ _) (congrArg (World.drewN _) (Nat.add_assoc _ _ _))⟩)) | (go_at_call 37; (with_reducible refine (backstepref02_digit.calls (bt a0 x7_1) t128 _ A33.out).mono ?_); rintro e w' ⟨rfl, ⟨nd, rfl⟩⟩; (try first | exact ⟨rfl, _, World.drewN_drewN _ _ _⟩ | exact ⟨rfl, _, Eq.trans (World.drewN_drewN _ _ _) (congrArg (World.drewN _) (Nat.add_assoc _ _ _))⟩)))
                            repeat (go_quiet (first | (go_at_call 36; (with_reducible refine (backstepref02_letter.calls (bt a0 x7_1) false _ A11.out).mono ?_); rintro e w' ⟨rfl, ⟨nd, rfl⟩⟩; (try first | exact ⟨rfl, _, World.drewN_drewN _ _ _⟩ | exact ⟨rfl, _, Eq.trans (World.drewN_drewN _ _ _) (congrArg (World.drewN _) (Nat.add_assoc _ _ _))⟩)) | (go_at_call 37; (with_reducible refine (backstepref02_digit.calls (bt a0 x7_1) t128 _ A33.out).mono ?_); rintro e w' ⟨rfl, ⟨nd, rfl⟩⟩; (try first | exact ⟨rfl, _, World.drewN_drewN _ _ _⟩ | exact ⟨rfl, _, Eq.trans (World.drewN_drewN _ _ _) (congrArg (World.drewN _) (Nat.add_assoc _ _ _))⟩))); try go_wp2_with (first | (go_at_call 36; (with_reducible refine (backstepref02_letter.calls (bt a0 x7_1) false _ A11.out).mono ?_); rintro e w' ⟨rfl, ⟨nd, rfl⟩⟩; (try first | exact ⟨rfl, _, World.drewN_drewN _ _ _⟩ | exact ⟨rfl, _, Eq.trans (World.drewN_drewN _ _ _) (congrArg (World.drewN _) (Nat.add_assoc _ _ _))⟩)) | (go_at_call 37; (with_reducible refine (backstepref02_digit.calls (bt a0 x7_1) t128 _ A33.out).mono ?_); rintro e w' ⟨rfl, ⟨nd, rfl⟩⟩; (try first | exact ⟨rfl, _, World.drewN_drewN _ _ _⟩ | exact ⟨rfl, _, Eq.trans (World.drewN_drewN _ _ _) (congrArg (World.drewN _) (Nat.add_assoc _ _ _))⟩))))
                            go_roundg k1
                            case measure => have := HK1.out; omega
                            case rel => exact ⟨(t128), (false), (true), (((bt a0 x7_1) != 10)), (wrap64 (x7_1 + 1)), (by first | rfl | (simp; done) | (simp [*]; done)), (by first | rfl | (simp; done) | (simp [*]; done)), (by first | rfl | (simp; done) | (simp [*]; done)), (by first | rfl | (simp; done) | (simp [*]; done)), (by first | rfl | (simp; done) | (simp [*]; done)), H', ⟨by have := HK1.out; omega⟩, ⟨by repeat (first | (with_reducible first | exact HB.out | apply below_alloc | apply pw_below_drewN | apply below_drew1) | exact HB.out)⟩⟩
                          · replace c49 := Bool.eq_false_iff.mpr c49
                            subst c49
                            have H1 : (backstepref02_Kind.l0 k1 a0 t128 false true false (wrap64 (x7_1 + 1))) = some r := by rw [if_neg (show ¬ (false = true) by decide)] at H; exact H
                            clear H
                            have H := H1
                            clear H1
                            have H' := Aside0.mk H
                            clear H
                            have p9 : 0 ≤ (x7_1 : Int) := of_decide_eq_true (by first | (with_reducible assumption) | assumption)
                            have q9 : x7_1 < (a0.size : Int) := of_decide_eq_true (by first | (with_reducible assumption) | assumption)
                            have hx9 := bt_at a0 x7_1
                            replace p9 := eq_true p9
                            replace q9 := eq_true q9
                            go_wp2_with (first | (go_at_call 36; (with_reducible refine (backstepref02_letter.calls (bt a0 x7_1) false _ A11.out).mono ?_); rintro e w' ⟨rfl, ⟨nd, rfl⟩⟩; (try first | exact ⟨rfl, _, World.drewN_drewN _ _ _⟩ | exact ⟨rfl, _, Eq.trans (World.drewN_drewN _ _ _) (congrArg (World.drewN _) (Nat.add_assoc _ _ _))⟩)) | (go_at_call 37; (with_reducible refine (backstepref02_digit.calls (bt a0 x7_1) t128 _ A33.out).mono ?_); rintro e w' ⟨rfl, ⟨nd, rfl⟩⟩; (try first | exact ⟨rfl, _, World.drewN_drewN _ _ _⟩ | exact ⟨rfl, _, Eq.trans (World.drewN_drewN _ _ _) (congrArg (World.drewN _) (Nat.add_assoc _ _ _))⟩)))
                            repeat (go_quiet (first | (go_at_call 36; (with_reducible refine (backstepref02_letter.calls (bt a0 x7_1) false _ A11.out).mono ?_); rintro e w' ⟨rfl, ⟨nd, rfl⟩⟩; (try first | exact ⟨rfl, _, World.drewN_drewN _ _ _⟩ | exact ⟨rfl, _, Eq.trans (World.drewN_drewN _ _ _) (congrArg (World.drewN _) (Nat.add_assoc _ _ _))⟩)) | (go_at_call 37; (with_reducible refine (backstepref02_digit.calls (bt a0 x7_1) t128 _ A33.out).mono ?_); rintro e w' ⟨rfl, ⟨nd, rfl⟩⟩; (try first | exact ⟨rfl, _, World.drewN_drewN _ _ _⟩ | exact ⟨rfl, _, Eq.trans (World.drewN_drewN _ _ _) (congrArg (World.drewN _) (Nat.add_assoc _ _ _))⟩))); try go_wp2_with (first | (go_at_call 36; (with_reducible refine (backstepref02_letter.calls (bt a0 x7_1) false _ A11.out).mono ?_); rintro e w' ⟨rfl, ⟨nd, rfl⟩⟩; (try first | exact ⟨rfl, _, World.drewN_drewN _ _ _⟩ | exact ⟨rfl, _, Eq.trans (World.drewN_drewN _ _ _) (congrArg (World.drewN _) (Nat.add_assoc _ _ _))⟩)) | (go_at_call 37; (with_reducible refine (backstepref02_digit.calls (bt a0 x7_1) t128 _ A33.out).mono ?_); rintro e w' ⟨rfl, ⟨nd, rfl⟩⟩; (try first | exact ⟨rfl, _, World.drewN_drewN _ _ _⟩ | exact ⟨rfl, _, Eq.trans (World.drewN_drewN _ _ _) (congrArg (World.drewN _) (Nat.add_assoc _ _ _))⟩))))
                            go_roundg k1
                            case measure => have := HK1.out; omega
                            case rel => exact ⟨(t128), (false), (true), (false), (wrap64 (x7_1 + 1)), (by first | rfl | (simp; done) | (simp [*]; done)), (by first | rfl | (simp; done) | (simp [*]; done)), (by first | rfl | (simp; done) | (simp [*]; done)), (by first | rfl | (simp; done) | (simp [*]; done)), (by first | rfl | (simp; done) | (simp [*]; done)), H', ⟨by have := HK1.out; omega⟩, ⟨by repeat (first | (with_reducible first | exact HB.out | apply below_alloc | apply pw_below_drewN | apply below_drew1) | exact HB.out)⟩⟩
                        · rw [if_neg c48] at H
                          have c48b0 : ((bt a0 x7_1) == 9) = false := beq_eq_false_iff_ne.mpr c48
                          have c48b1 : ((bt a0 x7_1) != 9) = true := bne_iff_ne.mpr c48
                          by_cases c50 : (bt a0 x7_1) = 13
                          · rw [if_pos c50] at H
                            have c50b0 : ((bt a0 x7_1) == 13) = true := beq_iff_eq.mpr c50
                            have c50b1 : ((bt a0 x7_1) != 13) = false := bne_eq_false_iff_eq.mpr c50
                            clear c50
                            by_cases c51 : x6_1 = true
                            · subst c51
                              have H1 : (backstepref02_Kind.l0 k1 a0 t128 false true ((bt a0 x7_1) != 10) (wrap64 (x7_1 + 1))) = some r := by rw [if_pos rfl] at H; exact H
                              clear H
                              have H := H1
                              clear H1
                              have H' := Aside0.mk H
                              clear H
                              have p9 : 0 ≤ (x7_1 : Int) := of_decide_eq_true (by first | (with_reducible assumption) | assumption)
                              have q9 : x7_1 < (a0.size : Int) := of_decide_eq_true (by first | (with_reducible assumption) | assumption)
                              have hx9 := bt_at a0 x7_1
                              replace p9 := eq_true p9
                              replace q9 := eq_true q9
                              go_wp2_with (first | (go_at_call 36; (with_reducible refine (backstepref02_letter.calls (bt a0 x7_1) false _ A11.out).mono ?_); rintro e w' ⟨rfl, ⟨nd, rfl⟩⟩; (try first | exact ⟨rfl, _, World.drewN_drewN _ _ _⟩ | exact ⟨rfl, _, Eq.trans (World.drewN_drewN _ _ _) (congrArg (World.drewN _) (Nat.add_assoc _ _ _))⟩)) | (go_at_call 37; (with_reducible refine (backstepref02_digit.calls (bt a0 x7_1) t128 _ A33.out).mono ?_); rintro e w' ⟨rfl, ⟨nd, rfl⟩⟩; (try first | exact ⟨rfl, _, World.drewN_drewN _ _ _⟩ | exact ⟨rfl, _, Eq.trans (World.drewN_drewN _ _ _) (congrArg (World.drewN _) (Nat.add_assoc _ _ _))⟩)))
                              repeat (go_quiet (first | (go_at_call 36; (with_reducible refine (backstepref02_letter.calls (bt a0 x7_1) false _ A11.out).mono ?_); rintro e w' ⟨rfl, ⟨nd, rfl⟩⟩; (try first | exact ⟨rfl, _, World.drewN_drewN _ _ _⟩ | exact ⟨rfl, _, Eq.trans (World.drewN_drewN _ _ _) (congrArg (World.drewN _) (Nat.add_assoc _ _ _))⟩)) | (go_at_call 37; (with_reducible refine (backstepref02_digit.calls (bt a0 x7_1) t128 _ A33.out).mono ?_); rintro e w' ⟨rfl, ⟨nd, rfl⟩⟩; (try first | exact ⟨rfl, _, World.drewN_drewN _ _ _⟩ | exact ⟨rfl, _, Eq.trans (World.drewN_drewN _ _ _) (congrArg (World.drewN _) (Nat.add_assoc _ _ _))⟩))); try go_wp2_with (first | (go_at_call 36; (with_reducible refine (backstepref02_letter.calls (bt a0 x7_1) false _ A11.out).mono ?_); rintro e w' ⟨rfl, ⟨nd, rfl⟩⟩; (try first | exact ⟨rfl, _, World.drewN_drewN _ _ _⟩ | exact ⟨rfl, _, Eq.trans (World.drewN_drewN _ _ _) (congrArg (World.drewN _) (Nat.add_assoc _ _ _))⟩)) | (go_at_call 37; (with_reducible refine (backstepref02_digit.calls (bt a0 x7_1) t128 _ A33.out).mono ?_); rintro e w' ⟨rfl, ⟨nd, rfl⟩⟩; (try first | exact ⟨rfl, _, World.drewN_drewN _ _ _⟩ | exact ⟨rfl, _, Eq.trans (World.drewN_drewN _ _ _) (congrArg (World.drewN _) (Nat.add_assoc _ _ _))⟩))))
                              go_roundg k1
                              case measure => have := HK1.out; omega
                              case rel => exact ⟨(t128), (false), (true), (((bt a0 x7_1) != 10)), (wrap64 (x7_1 + 1)), (by first | rfl | (simp; done) | (simp [*]; done)), (by first | rfl | (simp; done) | (simp [*]; done)), (by first | rfl | (simp; done) | (simp [*]; done)), (by first | rfl | (simp; done) | (simp [*]; done)), (by first | rfl | (simp; done) | (simp [*]; done)), H', ⟨by have := HK1.out; omega⟩, ⟨by repeat (first | (with_reducible first | exact HB.out | apply below_alloc | apply pw_below_drewN | apply below_drew1) | exact HB.out)⟩⟩
                            · replace c51 := Bool.eq_false_iff.mpr c51
                              subst c51
                              have H1 : (backstepref02_Kind.l0 k1 a0 t128 false true false (wrap64 (x7_1 + 1))) = some r := by rw [if_neg (show ¬ (false = true) by decide)] at H; exact H
                              clear H
                              have H := H1
                              clear H1
                              have H' := Aside0.mk H
                              clear H
                              have p9 : 0 ≤ (x7_1 : Int) := of_decide_eq_true (by first | (with_reducible assumption) | assumption)
                              have q9 : x7_1 < (a0.size : Int) := of_decide_eq_true (by first | (with_reducible assumption) | assumption)
                              have hx9 := bt_at a0 x7_1
                              replace p9 := eq_true p9
                              replace q9 := eq_true q9
                              go_wp2_with (first | (go_at_call 36; (with_reducible refine (backstepref02_letter.calls (bt a0 x7_1) false _ A11.out).mono ?_); rintro e w' ⟨rfl, ⟨nd, rfl⟩⟩; (try first | exact ⟨rfl, _, World.drewN_drewN _ _ _⟩ | exact ⟨rfl, _, Eq.trans (World.drewN_drewN _ _ _) (congrArg (World.drewN _) (Nat.add_assoc _ _ _))⟩)) | (go_at_call 37; (with_reducible refine (backstepref02_digit.calls (bt a0 x7_1) t128 _ A33.out).mono ?_); rintro e w' ⟨rfl, ⟨nd, rfl⟩⟩; (try first | exact ⟨rfl, _, World.drewN_drewN _ _ _⟩ | exact ⟨rfl, _, Eq.trans (World.drewN_drewN _ _ _) (congrArg (World.drewN _) (Nat.add_assoc _ _ _))⟩)))
                              repeat (go_quiet (first | (go_at_call 36; (with_reducible refine (backstepref02_letter.calls (bt a0 x7_1) false _ A11.out).mono ?_); rintro e w' ⟨rfl, ⟨nd, rfl⟩⟩; (try first | exact ⟨rfl, _, World.drewN_drewN _ _ _⟩ | exact ⟨rfl, _, Eq.trans (World.drewN_drewN _ _ _) (congrArg (World.drewN _) (Nat.add_assoc _ _ _))⟩)) | (go_at_call 37; (with_reducible refine (backstepref02_digit.calls (bt a0 x7_1) t128 _ A33.out).mono ?_); rintro e w' ⟨rfl, ⟨nd, rfl⟩⟩; (try first | exact ⟨rfl, _, World.drewN_drewN _ _ _⟩ | exact ⟨rfl, _, Eq.trans (World.drewN_drewN _ _ _) (congrArg (World.drewN _) (Nat.add_assoc _ _ _))⟩))); try go_wp2_with (first | (go_at_call 36; (with_reducible refine (backstepref02_letter.calls (bt a0 x7_1) false _ A11.out).mono ?_); rintro e w' ⟨rfl, ⟨nd, rfl⟩⟩; (try first | exact ⟨rfl, _, World.drewN_drewN _ _ _⟩ | exact ⟨rfl, _, Eq.trans (World.drewN_drewN _ _ _) (congrArg (World.drewN _) (Nat.add_assoc _ _ _))⟩)) | (go_at_call 37; (with_reducible refine (backstepref02_digit.calls (bt a0 x7_1) t128 _ A33.out).mono ?_); rintro e w' ⟨rfl, ⟨nd, rfl⟩⟩; (try first | exact ⟨rfl, _, World.drewN_drewN _ _ _⟩ | exact ⟨rfl, _, Eq.trans (World.drewN_drewN _ _ _) (congrArg (World.drewN _) (Nat.add_assoc _ _ _))⟩))))
                              go_roundg k1
                              case measure => have := HK1.out; omega
                              case rel => exact ⟨(t128), (false), (true), (false), (wrap64 (x7_1 + 1)), (by first | rfl | (simp; done) | (simp [*]; done)), (by first | rfl | (simp; done) | (simp [*]; done)), (by first | rfl | (simp; done) | (simp [*]; done)), (by first | rfl | (simp; done) | (simp [*]; done)), (by first | rfl | (simp; done) | (simp [*]; done)), H', ⟨by have := HK1.out; omega⟩, ⟨by repeat (first | (with_reducible first | exact HB.out | apply below_alloc | apply pw_below_drewN | apply below_drew1) | exact HB.out)⟩⟩
                          · rw [if_neg c50] at H
                            have c50b0 : ((bt a0 x7_1) == 13) = false := beq_eq_false_iff_ne.mpr c50
                            have c50b1 : ((bt a0 x7_1) != 13) = true := bne_iff_ne.mpr c50
                            by_cases c52 : x6_1 = true
                            · subst c52
                              have H1 : (backstepref02_Kind.l0 k1 a0 t128 false ((bt a0 x7_1) == 10) ((bt a0 x7_1) != 10) (wrap64 (x7_1 + 1))) = some r := by rw [if_pos rfl] at H; exact H
                              clear H
                              have H := H1
                              clear H1
                              have H' := Aside0.mk H
                              clear H
                              have p9 : 0 ≤ (x7_1 : Int) := of_decide_eq_true (by first | (with_reducible assumption) | assumption)
                              have q9 : x7_1 < (a0.size : Int) := of_decide_eq_true (by first | (with_reducible assumption) | assumption)
                              have hx9 := bt_at a0 x7_1
                              replace p9 := eq_true p9
                              replace q9 := eq_true q9
                              go_wp2_with (first | (go_at_call 36; (with_reducible refine (backstepref02_letter.calls (bt a0 x7_1) false _ A11.out).mono ?_); rintro e w' ⟨rfl, ⟨nd, rfl⟩⟩; (try first | exact ⟨rfl, _, World.drewN_drewN _ _ _⟩ | exact ⟨rfl, _, Eq.trans (World.drewN_drewN _ _ _) (congrArg (World.drewN _) (Nat.add_assoc _ _ _))⟩)) | (go_at_call 37; (with_reducible refine (backstepref02_digit.calls (bt a0 x7_1) t128 _ A33.out).mono ?_); rintro e w' ⟨rfl, ⟨nd, rfl⟩⟩; (try first | exact ⟨rfl, _, World.drewN_drewN _ _ _⟩ | exact ⟨rfl, _, Eq.trans (World.drewN_drewN _ _ _) (congrArg (World.drewN _) (Nat.add_assoc _ _ _))⟩)))
                              repeat (go_quiet (first | (go_at_call 36; (with_reducible refine (backstepref02_letter.calls (bt a0 x7_1) false _ A11.out).mono ?_); rintro e w' ⟨rfl, ⟨nd, rfl⟩⟩; (try first | exact ⟨rfl, _, World.drewN_drewN _ _ _⟩ | exact ⟨rfl, _, Eq.trans (World.drewN_drewN _ _ _) (congrArg (World.drewN _) (Nat.add_assoc _ _ _))⟩)) | (go_at_call 37; (with_reducible refine (backstepref02_digit.calls (bt a0 x7_1) t128 _ A33.out).mono ?_); rintro e w' ⟨rfl, ⟨nd, rfl⟩⟩; (try first | exact ⟨rfl, _, World.drewN_drewN _ _ _⟩ | exact ⟨rfl, _, Eq.trans (World.drewN_drewN _ _ _) (congrArg (World.drewN _) (Nat.add_assoc _ _ _))⟩))); try go_wp2_with (first | (go_at_call 36; (with_reducible refine (backstepref02_letter.calls (bt a0 x7_1) false _ A11.out).mono ?_); rintro e w' ⟨rfl, ⟨nd, rfl⟩⟩; (try first | exact ⟨rfl, _, World.drewN_drewN _ _ _⟩ | exact ⟨rfl, _, Eq.trans (World.drewN_drewN _ _ _) (congrArg (World.drewN _) (Nat.add_assoc _ _ _))⟩)) | (go_at_call 37; (with_reducible refine (backstepref02_digit.calls (bt a0 x7_1) t128 _ A33.out).mono ?_); rintro e w' ⟨rfl, ⟨nd, rfl⟩⟩; (try first | exact ⟨rfl, _, World.drewN_drewN _ _ _⟩ | exact ⟨rfl, _, Eq.trans (World.drewN_drewN _ _ _) (congrArg (World.drewN _) (Nat.add_assoc _ _ _))⟩))))
                              go_roundg k1
                              case measure => have := HK1.out; omega
                              case rel => exact ⟨(t128), (false), (((bt a0 x7_1) == 10)), (((bt a0 x7_1) != 10)), (wrap64 (x7_1 + 1)), (by first | rfl | (simp; done) | (simp [*]; done)), (by first | rfl | (simp; done) | (simp [*]; done)), (by first | rfl | (simp; done) | (simp [*]; done)), (by first | rfl | (simp; done) | (simp [*]; done)), (by first | rfl | (simp; done) | (simp [*]; done)), H', ⟨by have := HK1.out; omega⟩, ⟨by repeat (first | (with_reducible first | exact HB.out | apply below_alloc | apply pw_below_drewN | apply below_drew1) | exact HB.out)⟩⟩
                            · replace c52 := Bool.eq_false_iff.mpr c52
                              subst c52
                              have H1 : (backstepref02_Kind.l0 k1 a0 t128 false ((bt a0 x7_1) == 10) false (wrap64 (x7_1 + 1))) = some r := by rw [if_neg (show ¬ (false = true) by decide)] at H; exact H
                              clear H
                              have H := H1
                              clear H1
                              have H' := Aside0.mk H
                              clear H
                              have p9 : 0 ≤ (x7_1 : Int) := of_decide_eq_true (by first | (with_reducible assumption) | assumption)
                              have q9 : x7_1 < (a0.size : Int) := of_decide_eq_true (by first | (with_reducible assumption) | assumption)
                              have hx9 := bt_at a0 x7_1
                              replace p9 := eq_true p9
                              replace q9 := eq_true q9
                              go_wp2_with (first | (go_at_call 36; (with_reducible refine (backstepref02_letter.calls (bt a0 x7_1) false _ A11.out).mono ?_); rintro e w' ⟨rfl, ⟨nd, rfl⟩⟩; (try first | exact ⟨rfl, _, World.drewN_drewN _ _ _⟩ | exact ⟨rfl, _, Eq.trans (World.drewN_drewN _ _ _) (congrArg (World.drewN _) (Nat.add_assoc _ _ _))⟩)) | (go_at_call 37; (with_reducible refine (backstepref02_digit.calls (bt a0 x7_1) t128 _ A33.out).mono ?_); rintro e w' ⟨rfl, ⟨nd, rfl⟩⟩; (try first | exact ⟨rfl, _, World.drewN_drewN _ _ _⟩ | exact ⟨rfl, _, Eq.trans (World.drewN_drewN _ _ _) (congrArg (World.drewN _) (Nat.add_assoc _ _ _))⟩)))
                              repeat (go_quiet (first | (go_at_call 36; (with_reducible refine (backstepref02_letter.calls (bt a0 x7_1) false _ A11.out).mono ?_); rintro e w' ⟨rfl, ⟨nd, rfl⟩⟩; (try first | exact ⟨rfl, _, World.drewN_drewN _ _ _⟩ | exact ⟨rfl, _, Eq.trans (World.drewN_drewN _ _ _) (congrArg (World.drewN _) (Nat.add_assoc _ _ _))⟩)) | (go_at_call 37; (with_reducible refine (backstepref02_digit.calls (bt a0 x7_1) t128 _ A33.out).mono ?_); rintro e w' ⟨rfl, ⟨nd, rfl⟩⟩; (try first | exact ⟨rfl, _, World.drewN_drewN _ _ _⟩ | exact ⟨rfl, _, Eq.trans (World.drewN_drewN _ _ _) (congrArg (World.drewN _) (Nat.add_assoc _ _ _))⟩))); try go_wp2_with (first | (go_at_call 36; (with_reducible refine (backstepref02_letter.calls (bt a0 x7_1) false _ A11.out).mono ?_); rintro e w' ⟨rfl, ⟨nd, rfl⟩⟩; (try first | exact ⟨rfl, _, World.drewN_drewN _ _ _⟩ | exact ⟨rfl, _, Eq.trans (World.drewN_drewN _ _ _) (congrArg (World.drewN _) (Nat.add_assoc _ _ _))⟩)) | (go_at_call 37; (with_reducible refine (backstepref02_digit.calls (bt a0 x7_1) t128 _ A33.out).mono ?_); rintro e w' ⟨rfl, ⟨nd, rfl⟩⟩; (try first | exact ⟨rfl, _, World.drewN_drewN _ _ _⟩ | exact ⟨rfl, _, Eq.trans (World.drewN_drewN _ _ _) (congrArg (World.drewN _) (Nat.add_assoc _ _ _))⟩))))
                              go_roundg k1
                              case measure => have := HK1.out; omega
                              case rel => exact ⟨(t128), (false), (((bt a0 x7_1) == 10)), (false), (wrap64 (x7_1 + 1)), (by first | rfl | (simp; done) | (simp [*]; done)), (by first | rfl | (simp; done) | (simp [*]; done)), (by first | rfl | (simp; done) | (simp [*]; done)), (by first | rfl | (simp; done) | (simp [*]; done)), (by first | rfl | (simp; done) | (simp [*]; done)), H', ⟨by have := HK1.out; omega⟩, ⟨by repeat (first | (with_reducible first | exact HB.out | apply below_alloc | apply pw_below_drewN | apply below_drew1) | exact HB.out)⟩⟩
                    · replace c45 := Bool.eq_false_iff.mpr c45
                      subst c45
                      have H1 : (if x6_1 = true then (backstepref02_Kind.l0 k1 a0 t128 false false ((bt a0 x7_1) != 10) (wrap64 (x7_1 + 1))) else (backstepref02_Kind.l0 k1 a0 t128 false false false (wrap64 (x7_1 + 1)))) = some r := by rw [if_neg (show ¬ (false = true) by decide)] at H; exact H
                      clear H
                      have H := H1
                      clear H1
                      by_cases c53 : x6_1 = true
                      · subst c53
                        have H1 : (backstepref02_Kind.l0 k1 a0 t128 false false ((bt a0 x7_1) != 10) (wrap64 (x7_1 + 1))) = some r := by rw [if_pos rfl] at H; exact H
                        clear H
                        have H := H1
                        clear H1
                        have H' := Aside0.mk H
                        clear H
                        have p9 : 0 ≤ (x7_1 : Int) := of_decide_eq_true (by first | (with_reducible assumption) | assumption)
                        have q9 : x7_1 < (a0.size : Int) := of_decide_eq_true (by first | (with_reducible assumption) | assumption)
                        have hx9 := bt_at a0 x7_1
                        replace p9 := eq_true p9
                        replace q9 := eq_true q9
                        go_wp2_with (first | (go_at_call 36; (with_reducible refine (backstepref02_letter.calls (bt a0 x7_1) false _ A11.out).mono ?_); rintro e w' ⟨rfl, ⟨nd, rfl⟩⟩; (try first | exact ⟨rfl, _, World.drewN_drewN _ _ _⟩ | exact ⟨rfl, _, Eq.trans (World.drewN_drewN _ _ _) (congrArg (World.drewN _) (Nat.add_assoc _ _ _))⟩)) | (go_at_call 37; (with_reducible refine (backstepref02_digit.calls (bt a0 x7_1) t128 _ A33.out).mono ?_); rintro e w' ⟨rfl, ⟨nd, rfl⟩⟩; (try first | exact ⟨rfl, _, World.drewN_drewN _ _ _⟩ | exact ⟨rfl, _, Eq.trans (World.drewN_drewN _ _ _) (congrArg (World.drewN _) (Nat.add_assoc _ _ _))⟩)))
                        repeat (go_quiet (first | (go_at_call 36; (with_reducible refine (backstepref02_letter.calls (bt a0 x7_1) false _ A11.out).mono ?_); rintro e w' ⟨rfl, ⟨nd, rfl⟩⟩; (try first | exact ⟨rfl, _, World.drewN_drewN _ _ _⟩ | exact ⟨rfl, _, Eq.trans (World.drewN_drewN _ _ _) (congrArg (World.drewN _) (Nat.add_assoc _ _ _))⟩)) | (go_at_call 37; (with_reducible refine (backstepref02_digit.calls (bt a0 x7_1) t128 _ A33.out).mono ?_); rintro e w' ⟨rfl, ⟨nd, rfl⟩⟩; (try first | exact ⟨rfl, _, World.drewN_drewN _ _ _⟩ | exact ⟨rfl, _, Eq.trans (World.drewN_drewN _ _ _) (congrArg (World.drewN _) (Nat.add_assoc _ _ _))⟩))); try go_wp2_with (first | (go_at_call 36; (with_reducible refine (backstepref02_letter.calls (bt a0 x7_1) false _ A11.out).mono ?_); rintro e w' ⟨rfl, ⟨nd, rfl⟩⟩; (try first | exact ⟨rfl, _, World.drewN_drewN _ _ _⟩ | exact ⟨rfl, _, Eq.trans (World.drewN_drewN _ _ _) (congrArg (World.drewN _) (Nat.add_assoc _ _ _))⟩)) | (go_at_call 37; (with_reducible refine (backstepref02_digit.calls (bt a0 x7_1) t128 _ A33.out).mono ?_); rintro e w' ⟨rfl, ⟨nd, rfl⟩⟩; (try first | exact ⟨rfl, _, World.drewN_drewN _ _ _⟩ | exact ⟨rfl, _, Eq.trans (World.drewN_drewN _ _ _) (congrArg (World.drewN _) (Nat.add_assoc _ _ _))⟩))))
                        go_roundg k1
                        case measure => have := HK1.out; omega
                        case rel => exact ⟨(t128), (false), (false), (((bt a0 x7_1) != 10)), (wrap64 (x7_1 + 1)), (by first | rfl | (simp; done) | (simp [*]; done)), (by first | rfl | (simp; done) | (simp [*]; done)), (by first | rfl | (simp; done) | (simp [*]; done)), (by first | rfl | (simp; done) | (simp [*]; done)), (by first | rfl | (simp; done) | (simp [*]; done)), H', ⟨by have := HK1.out; omega⟩, ⟨by repeat (first | (with_reducible first | exact HB.out | apply below_alloc | apply pw_below_drewN | apply below_drew1) | exact HB.out)⟩⟩
                      · replace c53 := Bool.eq_false_iff.mpr c53
                        subst c53
                        have H1 : (backstepref02_Kind.l0 k1 a0 t128 false false false (wrap64 (x7_1 + 1))) = some r := by rw [if_neg (show ¬ (false = true) by decide)] at H; exact H
                        clear H
                        have H := H1
                        clear H1
                        have H' := Aside0.mk H
                        clear H
                        have p9 : 0 ≤ (x7_1 : Int) := of_decide_eq_true (by first | (with_reducible assumption) | assumption)
                        have q9 : x7_1 < (a0.size : Int) := of_decide_eq_true (by first | (with_reducible assumption) | assumption)
                        have hx9 := bt_at a0 x7_1
                        replace p9 := eq_true p9
                        replace q9 := eq_true q9
                        go_wp2_with (first | (go_at_call 36; (with_reducible refine (backstepref02_letter.calls (bt a0 x7_1) false _ A11.out).mono ?_); rintro e w' ⟨rfl, ⟨nd, rfl⟩⟩; (try first | exact ⟨rfl, _, World.drewN_drewN _ _ _⟩ | exact ⟨rfl, _, Eq.trans (World.drewN_drewN _ _ _) (congrArg (World.drewN _) (Nat.add_assoc _ _ _))⟩)) | (go_at_call 37; (with_reducible refine (backstepref02_digit.calls (bt a0 x7_1) t128 _ A33.out).mono ?_); rintro e w' ⟨rfl, ⟨nd, rfl⟩⟩; (try first | exact ⟨rfl, _, World.drewN_drewN _ _ _⟩ | exact ⟨rfl, _, Eq.trans (World.drewN_drewN _ _ _) (congrArg (World.drewN _) (Nat.add_assoc _ _ _))⟩)))
                        repeat (go_quiet (first | (go_at_call 36; (with_reducible refine (backstepref02_letter.calls (bt a0 x7_1) false _ A11.out).mono ?_); rintro e w' ⟨rfl, ⟨nd, rfl⟩⟩; (try first | exact ⟨rfl, _, World.drewN_drewN _ _ _⟩ | exact ⟨rfl, _, Eq.trans (World.drewN_drewN _ _ _) (congrArg (World.drewN _) (Nat.add_assoc _ _ _))⟩)) | (go_at_call 37; (with_reducible refine (backstepref02_digit.calls (bt a0 x7_1) t128 _ A33.out).mono ?_); rintro e w' ⟨rfl, ⟨nd, rfl⟩⟩; (try first | exact ⟨rfl, _, World.drewN_drewN _ _ _⟩ | exact ⟨rfl, _, Eq.trans (World.drewN_drewN _ _ _) (congrArg (World.drewN _) (Nat.add_assoc _ _ _))⟩))); try go_wp2_with (first | (go_at_call 36; (with_reducible refine (backstepref02_letter.calls (bt a0 x7_1) false _ A11.out).mono ?_); rintro e w' ⟨rfl, ⟨nd, rfl⟩⟩; (try first | exact ⟨rfl, _, World.drewN_drewN _ _ _⟩ | exact ⟨rfl, _, Eq.trans (World.drewN_drewN _ _ _) (congrArg (World.drewN _) (Nat.add_assoc _ _ _))⟩)) | (go_at_call 37; (with_reducible refine (backstepref02_digit.calls (bt a0 x7_1) t128 _ A33.out).mono ?_); rintro e w' ⟨rfl, ⟨nd, rfl⟩⟩; (try first | exact ⟨rfl, _, World.drewN_drewN _ _ _⟩ | exact ⟨rfl, _, Eq.trans (World.drewN_drewN _ _ _) (congrArg (World.drewN _) (Nat.add_assoc _ _ _))⟩))))
                        go_roundg k1
                        case measure => have := HK1.out; omega
                        case rel => exact ⟨(t128), (false), (false), (false), (wrap64 (x7_1 + 1)), (by first | rfl | (simp; done) | (simp [*]; done)), (by first | rfl | (simp; done) | (simp [*]; done)), (by first | rfl | (simp; done) | (simp [*]; done)), (by first | rfl | (simp; done) | (simp [*]; done)), (by first | rfl | (simp; done) | (simp [*]; done)), H', ⟨by have := HK1.out; omega⟩, ⟨by repeat (first | (with_reducible first | exact HB.out | apply below_alloc | apply pw_below_drewN | apply below_drew1) | exact HB.out)⟩⟩
              · replace c10 := Bool.eq_false_iff.mpr c10
                subst c10
                have H1 : (if x4_1 = true then ((backstepref02_digit.f (bt a0 x7_1)).bind fun t130 => (if x5_1 = true then (if (bt a0 x7_1) = 32 then (if x6_1 = true then (backstepref02_Kind.l0 k1 a0 false t130 true ((bt a0 x7_1) != 10) (wrap64 (x7_1 + 1))) else (backstepref02_Kind.l0 k1 a0 false t130 true false (wrap64 (x7_1 + 1)))) else (if (bt a0 x7_1) = 9 then (if x6_1 = true then (backstepref02_Kind.l0 k1 a0 false t130 true ((bt a0 x7_1) != 10) (wrap64 (x7_1 + 1))) else (backstepref02_Kind.l0 k1 a0 false t130 true false (wrap64 (x7_1 + 1)))) else (if (bt a0 x7_1) = 13 then (if x6_1 = true then (backstepref02_Kind.l0 k1 a0 false t130 true ((bt a0 x7_1) != 10) (wrap64 (x7_1 + 1))) else (backstepref02_Kind.l0 k1 a0 false t130 true false (wrap64 (x7_1 + 1)))) else (if x6_1 = true then (backstepref02_Kind.l0 k1 a0 false t130 ((bt a0 x7_1) == 10) ((bt a0 x7_1) != 10) (wrap64 (x7_1 + 1))) else (backstepref02_Kind.l0 k1 a0 false t130 ((bt a0 x7_1) == 10) false (wrap64 (x7_1 + 1))))))) else (if x6_1 = true then (backstepref02_Kind.l0 k1 a0 false t130 false ((bt a0 x7_1) != 10) (wrap64 (x7_1 + 1))) else (backstepref02_Kind.l0 k1 a0 false t130 false false (wrap64 (x7_1 + 1)))))) else (if x5_1 = true then (if (bt a0 x7_1) = 32 then (if x6_1 = true then (backstepref02_Kind.l0 k1 a0 false false true ((bt a0 x7_1) != 10) (wrap64 (x7_1 + 1))) else (backstepref02_Kind.l0 k1 a0 false false true false (wrap64 (x7_1 + 1)))) else (if (bt a0 x7_1) = 9 then (if x6_1 = true then (backstepref02_Kind.l0 k1 a0 false false true ((bt a0 x7_1) != 10) (wrap64 (x7_1 + 1))) else (backstepref02_Kind.l0 k1 a0 false false true false (wrap64 (x7_1 + 1)))) else (if (bt a0 x7_1) = 13 then (if x6_1 = true then (backstepref02_Kind.l0 k1 a0 false false true ((bt a0 x7_1) != 10) (wrap64 (x7_1 + 1))) else (backstepref02_Kind.l0 k1 a0 false false true false (wrap64 (x7_1 + 1)))) else (if x6_1 = true then (backstepref02_Kind.l0 k1 a0 false false ((bt a0 x7_1) == 10) ((bt a0 x7_1) != 10) (wrap64 (x7_1 + 1))) else (backstepref02_Kind.l0 k1 a0 false false ((bt a0 x7_1) == 10) false (wrap64 (x7_1 + 1))))))) else (if x6_1 = true then (backstepref02_Kind.l0 k1 a0 false false false ((bt a0 x7_1) != 10) (wrap64 (x7_1 + 1))) else (backstepref02_Kind.l0 k1 a0 false false false false (wrap64 (x7_1 + 1)))))) = some r := by rw [if_neg (show ¬ (false = true) by decide)] at H; exact H
                clear H
                have H := H1
                clear H1
                by_cases c54 : x4_1 = true
                · subst c54
                  have H1 : ((backstepref02_digit.f (bt a0 x7_1)).bind fun t130 => (if x5_1 = true then (if (bt a0 x7_1) = 32 then (if x6_1 = true then (backstepref02_Kind.l0 k1 a0 false t130 true ((bt a0 x7_1) != 10) (wrap64 (x7_1 + 1))) else (backstepref02_Kind.l0 k1 a0 false t130 true false (wrap64 (x7_1 + 1)))) else (if (bt a0 x7_1) = 9 then (if x6_1 = true then (backstepref02_Kind.l0 k1 a0 false t130 true ((bt a0 x7_1) != 10) (wrap64 (x7_1 + 1))) else (backstepref02_Kind.l0 k1 a0 false t130 true false (wrap64 (x7_1 + 1)))) else (if (bt a0 x7_1) = 13 then (if x6_1 = true then (backstepref02_Kind.l0 k1 a0 false t130 true ((bt a0 x7_1) != 10) (wrap64 (x7_1 + 1))) else (backstepref02_Kind.l0 k1 a0 false t130 true false (wrap64 (x7_1 + 1)))) else (if x6_1 = true then (backstepref02_Kind.l0 k1 a0 false t130 ((bt a0 x7_1) == 10) ((bt a0 x7_1) != 10) (wrap64 (x7_1 + 1))) else (backstepref02_Kind.l0 k1 a0 false t130 ((bt a0 x7_1) == 10) false (wrap64 (x7_1 + 1))))))) else (if x6_1 = true then (backstepref02_Kind.l0 k1 a0 false t130 false ((bt a0 x7_1) != 10) (wrap64 (x7_1 + 1))) else (backstepref02_Kind.l0 k1 a0 false t130 false false (wrap64 (x7_1 + 1)))))) = some r := by rw [if_pos rfl] at H; exact H
                  clear H
                  have H := H1
                  clear H1
                  replace H := Option.bind_eq_some_iff.mp H
                  obtain ⟨t130, A550, H⟩ := H
                  replace H : (if x5_1 = true then (if (bt a0 x7_1) = 32 then (if x6_1 = true then (backstepref02_Kind.l0 k1 a0 false t130 true ((bt a0 x7_1) != 10) (wrap64 (x7_1 + 1))) else (backstepref02_Kind.l0 k1 a0 false t130 true false (wrap64 (x7_1 + 1)))) else (if (bt a0 x7_1) = 9 then (if x6_1 = true then (backstepref02_Kind.l0 k1 a0 false t130 true ((bt a0 x7_1) != 10) (wrap64 (x7_1 + 1))) else (backstepref02_Kind.l0 k1 a0 false t130 true false (wrap64 (x7_1 + 1)))) else (if (bt a0 x7_1) = 13 then (if x6_1 = true then (backstepref02_Kind.l0 k1 a0 false t130 true ((bt a0 x7_1) != 10) (wrap64 (x7_1 + 1))) else (backstepref02_Kind.l0 k1 a0 false t130 true false (wrap64 (x7_1 + 1)))) else (if x6_1 = true then (backstepref02_Kind.l0 k1 a0 false t130 ((bt a0 x7_1) == 10) ((bt a0 x7_1) != 10) (wrap64 (x7_1 + 1))) else (backstepref02_Kind.l0 k1 a0 false t130 ((bt a0 x7_1) == 10) false (wrap64 (x7_1 + 1))))))) else (if x6_1 = true then (backstepref02_Kind.l0 k1 a0 false t130 false ((bt a0 x7_1) != 10) (wrap64 (x7_1 + 1))) else (backstepref02_Kind.l0 k1 a0 false t130 false false (wrap64 (x7_1 + 1))))) = some r := H
                  have A55 := Aside0.mk A550
                  clear A550
                  by_cases c56 : x5_1 = true
                  · subst c56
                    have H1 : (if (bt a0 x7_1) = 32 then (if x6_1 = true then (backstepref02_Kind.l0 k1 a0 false t130 true ((bt a0 x7_1) != 10) (wrap64 (x7_1 + 1))) else (backstepref02_Kind.l0 k1 a0 false t130 true false (wrap64 (x7_1 + 1)))) else (if (bt a0 x7_1) = 9 then (if x6_1 = true then (backstepref02_Kind.l0 k1 a0 false t130 true ((bt a0 x7_1) != 10) (wrap64 (x7_1 + 1))) else (backstepref02_Kind.l0 k1 a0 false t130 true false (wrap64 (x7_1 + 1)))) else (if (bt a0 x7_1) = 13 then (if x6_1 = true then (backstepref02_Kind.l0 k1 a0 false t130 true ((bt a0 x7_1) != 10) (wrap64 (x7_1 + 1))) else (backstepref02_Kind.l0 k1 a0 false t130 true false (wrap64 (x7_1 + 1)))) else (if x6_1 = true then (backstepref02_Kind.l0 k1 a0 false t130 ((bt a0 x7_1) == 10) ((bt a0 x7_1) != 10) (wrap64 (x7_1 + 1))) else (backstepref02_Kind.l0 k1 a0 false t130 ((bt a0 x7_1) == 10) false (wrap64 (x7_1 + 1))))))) = some r := by rw [if_pos rfl] at H; exact H
                    clear H
                    have H := H1
                    clear H1
                    by_cases c57 : (bt a0 x7_1) = 32
                    · rw [if_pos c57] at H
                      have c57b0 : ((bt a0 x7_1) == 32) = true := beq_iff_eq.mpr c57
                      have c57b1 : ((bt a0 x7_1) != 32) = false := bne_eq_false_iff_eq.mpr c57
                      clear c57
                      by_cases c58 : x6_1 = true
                      · subst c58
                        have H1 : (backstepref02_Kind.l0 k1 a0 false t130 true ((bt a0 x7_1) != 10) (wrap64 (x7_1 + 1))) = some r := by rw [if_pos rfl] at H; exact H
                        clear H
                        have H := H1
                        clear H1
                        have H' := Aside0.mk H
                        clear H
                        have p9 : 0 ≤ (x7_1 : Int) := of_decide_eq_true (by first | (with_reducible assumption) | assumption)
                        have q9 : x7_1 < (a0.size : Int) := of_decide_eq_true (by first | (with_reducible assumption) | assumption)
                        have hx9 := bt_at a0 x7_1
                        replace p9 := eq_true p9
                        replace q9 := eq_true q9
                        go_wp2_with (first | (go_at_call 37; (with_reducible refine (backstepref02_digit.calls (bt a0 x7_1) t130 _ A55.out).mono ?_); rintro e w' ⟨rfl, ⟨nd, rfl⟩⟩; (try first | exact ⟨rfl, _, World.drewN_drewN _ _ _⟩ | exact ⟨rfl, _, Eq.trans (World.drewN_drewN _ _ _) (congrArg (World.drewN _) (Nat.add_assoc _ _ _))⟩)))
                        repeat (go_quiet (first | (go_at_call 37; (with_reducible refine (backstepref02_digit.calls (bt a0 x7_1) t130 _ A55.out).mono ?_); rintro e w' ⟨rfl, ⟨nd, rfl⟩⟩; (try first | exact ⟨rfl, _, World.drewN_drewN _ _ _⟩ | exact ⟨rfl, _, Eq.trans (World.drewN_drewN _ _ _) (congrArg (World.drewN _) (Nat.add_assoc _ _ _))⟩))); try go_wp2_with (first | (go_at_call 37; (with_reducible refine (backstepref02_digit.calls (bt a0 x7_1) t130 _ A55.out).mono ?_); rintro e w' ⟨rfl, ⟨nd, rfl⟩⟩; (try first | exact ⟨rfl, _, World.drewN_drewN _ _ _⟩ | exact ⟨rfl, _, Eq.trans (World.drewN_drewN _ _ _) (congrArg (World.drewN _) (Nat.add_assoc _ _ _))⟩))))
                        go_roundg k1
                        case measure => have := HK1.out; omega
                        case rel => exact ⟨(false), (t130), (true), (((bt a0 x7_1) != 10)), (wrap64 (x7_1 + 1)), (by first | rfl | (simp; done) | (simp [*]; done)), (by first | rfl | (simp; done) | (simp [*]; done)), (by first | rfl | (simp; done) | (simp [*]; done)), (by first | rfl | (simp; done) | (simp [*]; done)), (by first | rfl | (simp; done) | (simp [*]; done)), H', ⟨by have := HK1.out; omega⟩, ⟨by repeat (first | (with_reducible first | exact HB.out | apply below_alloc | apply pw_below_drewN | apply below_drew1) | exact HB.out)⟩⟩
                      · replace c58 := Bool.eq_false_iff.mpr c58
                        subst c58
                        have H1 : (backstepref02_Kind.l0 k1 a0 false t130 true false (wrap64 (x7_1 + 1))) = some r := by rw [if_neg (show ¬ (false = true) by decide)] at H; exact H
                        clear H
                        have H := H1
                        clear H1
                        have H' := Aside0.mk H
                        clear H
                        have p9 : 0 ≤ (x7_1 : Int) := of_decide_eq_true (by first | (with_reducible assumption) | assumption)
                        have q9 : x7_1 < (a0.size : Int) := of_decide_eq_true (by first | (with_reducible assumption) | assumption)
                        have hx9 := bt_at a0 x7_1
                        replace p9 := eq_true p9
                        replace q9 := eq_true q9
                        go_wp2_with (first | (go_at_call 37; (with_reducible refine (backstepref02_digit.calls (bt a0 x7_1) t130 _ A55.out).mono ?_); rintro e w' ⟨rfl, ⟨nd, rfl⟩⟩; (try first | exact ⟨rfl, _, World.drewN_drewN _ _ _⟩ | exact ⟨rfl, _, Eq.trans (World.drewN_drewN _ _ _) (congrArg (World.drewN _) (Nat.add_assoc _ _ _))⟩)))
                        repeat (go_quiet (first | (go_at_call 37; (with_reducible refine (backstepref02_digit.calls (bt a0 x7_1) t130 _ A55.out).mono ?_); rintro e w' ⟨rfl, ⟨nd, rfl⟩⟩; (try first | exact ⟨rfl, _, World.drewN_drewN _ _ _⟩ | exact ⟨rfl, _, Eq.trans (World.drewN_drewN _ _ _) (congrArg (World.drewN _) (Nat.add_assoc _ _ _))⟩))); try go_wp2_with (first | (go_at_call 37; (with_reducible refine (backstepref02_digit.calls (bt a0 x7_1) t130 _ A55.out).mono ?_); rintro e w' ⟨rfl, ⟨nd, rfl⟩⟩; (try first | exact ⟨rfl, _, World.drewN_drewN _ _ _⟩ | exact ⟨rfl, _, Eq.trans (World.drewN_drewN _ _ _) (congrArg (World.drewN _) (Nat.add_assoc _ _ _))⟩))))
                        go_roundg k1
                        case measure => have := HK1.out; omega
                        case rel => exact ⟨(false), (t130), (true), (false), (wrap64 (x7_1 + 1)), (by first | rfl | (simp; done) | (simp [*]; done)), (by first | rfl | (simp; done) | (simp [*]; done)), (by first | rfl | (simp; done) | (simp [*]; done)), (by first | rfl | (simp; done) | (simp [*]; done)), (by first | rfl | (simp; done) | (simp [*]; done)), H', ⟨by have := HK1.out; omega⟩, ⟨by repeat (first | (with_reducible first | exact HB.out | apply below_alloc | apply pw_below_drewN | apply below_drew1) | exact HB.out)⟩⟩
                    · rw [if_neg c57] at H
                      have c57b0 : ((bt a0 x7_1) == 32) = false := beq_eq_false_iff_ne.mpr c57
                      have c57b1 : ((bt a0 x7_1) != 32) = true := bne_iff_ne.mpr c57
                      by_cases c59 : (bt a0 x7_1) = 9
                      · rw [if_pos c59] at H
                        have c59b0 : ((bt a0 x7_1) == 9) = true := beq_iff_eq.mpr c59
                        have c59b1 : ((bt a0 x7_1) != 9) = false := bne_eq_false_iff_eq.mpr c59
                        clear c59
                        by_cases c60 : x6_1 = true
                        · subst c60
                          have H1 : (backstepref02_Kind.l0 k1 a0 false t130 true ((bt a0 x7_1) != 10) (wrap64 (x7_1 + 1))) = some r := by rw [if_pos rfl] at H; exact H
                          clear H
                          have H := H1
                          clear H1
                          have H' := Aside0.mk H
                          clear H
                          have p9 : 0 ≤ (x7_1 : Int) := of_decide_eq_true (by first | (with_reducible assumption) | assumption)
                          have q9 : x7_1 < (a0.size : Int) := of_decide_eq_true (by first | (with_reducible assumption) | assumption)
                          have hx9 := bt_at a0 x7_1
                          replace p9 := eq_true p9
                          replace q9 := eq_true q9
                          go_wp2_with (first | (go_at_call 37; (with_reducible refine (backstepref02_digit.calls (bt a0 x7_1) t130 _ A55.out).mono ?_); rintro e w' ⟨rfl, ⟨nd, rfl⟩⟩; (try first | exact ⟨rfl, _, World.drewN_drewN _ _ _⟩ | exact ⟨rfl, _, Eq.trans (World.drewN_drewN _ _ _) (congrArg (World.drewN _) (Nat.add_assoc _ _ _))⟩)))
                          repeat (go_quiet (first | (go_at_call 37; (with_reducible refine (backstepref02_digit.calls (bt a0 x7_1) t130 _ A55.out).mono ?_); rintro e w' ⟨rfl, ⟨nd, rfl⟩⟩; (try first | exact ⟨rfl, _, World.drewN_drewN _ _ _⟩ | exact ⟨rfl, _, Eq.trans (World.drewN_drewN _ _ _) (congrArg (World.drewN _) (Nat.add_assoc _ _ _))⟩))); try go_wp2_with (first | (go_at_call 37; (with_reducible refine (backstepref02_digit.calls (bt a0 x7_1) t130 _ A55.out).mono ?_); rintro e w' ⟨rfl, ⟨nd, rfl⟩⟩; (try first | exact ⟨rfl, _, World.drewN_drewN _ _ _⟩ | exact ⟨rfl, _, Eq.trans (World.drewN_drewN _ _ _) (congrArg (World.drewN _) (Nat.add_assoc _ _ _))⟩))))
                          go_roundg k1
                          case measure => have := HK1.out; omega
                          case rel => exact ⟨(false), (t130), (true), (((bt a0 x7_1) != 10)), (wrap64 (x7_1 + 1)), (by first | rfl | (simp; done) | (simp [*]; done)), (by first | rfl | (simp; done) | (simp [*]; done)), (by first | rfl | (simp; done) | (simp [*]; done)), (by first | rfl | (simp; done) | (simp [*]; done)), (by first | rfl | (simp; done) | (simp [*]; done)), H', ⟨by have := HK1.out; omega⟩, ⟨by repeat (first | (with_reducible first | exact HB.out | apply below_alloc | apply pw_below_drewN | apply below_drew1) | exact HB.out)⟩⟩
                        · replace c60 := Bool.eq_false_iff.mpr c60
                          subst c60
                          have H1 : (backstepref02_Kind.l0 k1 a0 false t130 true false (wrap64 (x7_1 + 1))) = some r := by rw [if_neg (show ¬ (false = true) by decide)] at H; exact H
                          clear H
                          have H := H1
                          clear H1
                          have H' := Aside0.mk H
                          clear H
                          have p9 : 0 ≤ (x7_1 : Int) := of_decide_eq_true (by first | (with_reducible assumption) | assumption)
                          have q9 : x7_1 < (a0.size : Int) := of_decide_eq_true (by first | (with_reducible assumption) | assumption)
                          have hx9 := bt_at a0 x7_1
                          replace p9 := eq_true p9
                          replace q9 := eq_true q9
                          go_wp2_with (first | (go_at_call 37; (with_reducible refine (backstepref02_digit.calls (bt a0 x7_1) t130 _ A55.out).mono ?_); rintro e w' ⟨rfl, ⟨nd, rfl⟩⟩; (try first | exact ⟨rfl, _, World.drewN_drewN _ _ _⟩ | exact ⟨rfl, _, Eq.trans (World.drewN_drewN _ _ _) (congrArg (World.drewN _) (Nat.add_assoc _ _ _))⟩)))
                          repeat (go_quiet (first | (go_at_call 37; (with_reducible refine (backstepref02_digit.calls (bt a0 x7_1) t130 _ A55.out).mono ?_); rintro e w' ⟨rfl, ⟨nd, rfl⟩⟩; (try first | exact ⟨rfl, _, World.drewN_drewN _ _ _⟩ | exact ⟨rfl, _, Eq.trans (World.drewN_drewN _ _ _) (congrArg (World.drewN _) (Nat.add_assoc _ _ _))⟩))); try go_wp2_with (first | (go_at_call 37; (with_reducible refine (backstepref02_digit.calls (bt a0 x7_1) t130 _ A55.out).mono ?_); rintro e w' ⟨rfl, ⟨nd, rfl⟩⟩; (try first | exact ⟨rfl, _, World.drewN_drewN _ _ _⟩ | exact ⟨rfl, _, Eq.trans (World.drewN_drewN _ _ _) (congrArg (World.drewN _) (Nat.add_assoc _ _ _))⟩))))
                          go_roundg k1
                          case measure => have := HK1.out; omega
                          case rel => exact ⟨(false), (t130), (true), (false), (wrap64 (x7_1 + 1)), (by first | rfl | (simp; done) | (simp [*]; done)), (by first | rfl | (simp; done) | (simp [*]; done)), (by first | rfl | (simp; done) | (simp [*]; done)), (by first | rfl | (simp; done) | (simp [*]; done)), (by first | rfl | (simp; done) | (simp [*]; done)), H', ⟨by have := HK1.out; omega⟩, ⟨by repeat (first | (with_reducible first | exact HB.out | apply below_alloc | apply pw_below_drewN | apply below_drew1) | exact HB.out)⟩⟩
                      · rw [if_neg c59] at H
                        have c59b0 : ((bt a0 x7_1) == 9) = false := beq_eq_false_iff_ne.mpr c59
                        have c59b1 : ((bt a0 x7_1) != 9) = true := bne_iff_ne.mpr c59
                        by_cases c61 : (bt a0 x7_1) = 13
                        · rw [if_pos c61] at H
                          have c61b0 : ((bt a0 x7_1) == 13) = true := beq_iff_eq.mpr c61
                          have c61b1 : ((bt a0 x7_1) != 13) = false := bne_eq_false_iff_eq.mpr c61
                          clear c61
                          by_cases c62 : x6_1 = true
                          · subst c62
                            have H1 : (backstepref02_Kind.l0 k1 a0 false t130 true ((bt a0 x7_1) != 10) (wrap64 (x7_1 + 1))) = some r := by rw [if_pos rfl] at H; exact H
                            clear H
                            have H := H1
                            clear H1
                            have H' := Aside0.mk H
                            clear H
                            have p9 : 0 ≤ (x7_1 : Int) := of_decide_eq_true (by first | (with_reducible assumption) | assumption)
                            have q9 : x7_1 < (a0.size : Int) := of_decide_eq_true (by first | (with_reducible assumption) | assumption)
                            have hx9 := bt_at a0 x7_1
                            replace p9 := eq_true p9
                            replace q9 := eq_true q9
                            go_wp2_with (first | (go_at_call 37; (with_reducible refine (backstepref02_digit.calls (bt a0 x7_1) t130 _ A55.out).mono ?_); rintro e w' ⟨rfl, ⟨nd, rfl⟩⟩; (try first | exact ⟨rfl, _, World.drewN_drewN _ _ _⟩ | exact ⟨rfl, _, Eq.trans (World.drewN_drewN _ _ _) (congrArg (World.drewN _) (Nat.add_assoc _ _ _))⟩)))
                            repeat (go_quiet (first | (go_at_call 37; (with_reducible refine (backstepref02_digit.calls (bt a0 x7_1) t130 _ A55.out).mono ?_); rintro e w' ⟨rfl, ⟨nd, rfl⟩⟩; (try first | exact ⟨rfl, _, World.drewN_drewN _ _ _⟩ | exact ⟨rfl, _, Eq.trans (World.drewN_drewN _ _ _) (congrArg (World.drewN _) (Nat.add_assoc _ _ _))⟩))); try go_wp2_with (first | (go_at_call 37; (with_reducible refine (backstepref02_digit.calls (bt a0 x7_1) t130 _ A55.out).mono ?_); rintro e w' ⟨rfl, ⟨nd, rfl⟩⟩; (try first | exact ⟨rfl, _, World.drewN_drewN _ _ _⟩ | exact ⟨rfl, _, Eq.trans (World.drewN_drewN _ _ _) (congrArg (World.drewN _) (Nat.add_assoc _ _ _))⟩))))
                            go_roundg k1
                            case measure => have := HK1.out; omega
                            case rel => exact ⟨(false), (t130), (true), (((bt a0 x7_1) != 10)), (wrap64 (x7_1 + 1)), (by first | rfl | (simp; done) | (simp [*]; done)), (by first | rfl | (simp; done) | (simp [*]; done)), (by first | rfl | (simp; done) | (simp [*]; done)), (by first | rfl | (simp; done) | (simp [*]; done)), (by first | rfl | (simp; done) | (simp [*]; done)), H', ⟨by have := HK1.out; omega⟩, ⟨by repeat (first | (with_reducible first | exact HB.out | apply below_alloc | apply pw_below_drewN | apply below_drew1) | exact HB.out)⟩⟩
                          · replace c62 := Bool.eq_false_iff.mpr c62
                            subst c62
                            have H1 : (backstepref02_Kind.l0 k1 a0 false t130 true false (wrap64 (x7_1 + 1))) = some r := by rw [if_neg (show ¬ (false = true) by decide)] at H; exact H
                            clear H
                            have H := H1
                            clear H1
                            have H' := Aside0.mk H
                            clear H
                            have p9 : 0 ≤ (x7_1 : Int) := of_decide_eq_true (by first | (with_reducible assumption) | assumption)
                            have q9 : x7_1 < (a0.size : Int) := of_decide_eq_true (by first | (with_reducible assumption) | assumption)
                            have hx9 := bt_at a0 x7_1
                            replace p9 := eq_true p9
                            replace q9 := eq_true q9
                            go_wp2_with (first | (go_at_call 37; (with_reducible refine (backstepref02_digit.calls (bt a0 x7_1) t130 _ A55.out).mono ?_); rintro e w' ⟨rfl, ⟨nd, rfl⟩⟩; (try first | exact ⟨rfl, _, World.drewN_drewN _ _ _⟩ | exact ⟨rfl, _, Eq.trans (World.drewN_drewN _ _ _) (congrArg (World.drewN _) (Nat.add_assoc _ _ _))⟩)))
                            repeat (go_quiet (first | (go_at_call 37; (with_reducible refine (backstepref02_digit.calls (bt a0 x7_1) t130 _ A55.out).mono ?_); rintro e w' ⟨rfl, ⟨nd, rfl⟩⟩; (try first | exact ⟨rfl, _, World.drewN_drewN _ _ _⟩ | exact ⟨rfl, _, Eq.trans (World.drewN_drewN _ _ _) (congrArg (World.drewN _) (Nat.add_assoc _ _ _))⟩))); try go_wp2_with (first | (go_at_call 37; (with_reducible refine (backstepref02_digit.calls (bt a0 x7_1) t130 _ A55.out).mono ?_); rintro e w' ⟨rfl, ⟨nd, rfl⟩⟩; (try first | exact ⟨rfl, _, World.drewN_drewN _ _ _⟩ | exact ⟨rfl, _, Eq.trans (World.drewN_drewN _ _ _) (congrArg (World.drewN _) (Nat.add_assoc _ _ _))⟩))))
                            go_roundg k1
                            case measure => have := HK1.out; omega
                            case rel => exact ⟨(false), (t130), (true), (false), (wrap64 (x7_1 + 1)), (by first | rfl | (simp; done) | (simp [*]; done)), (by first | rfl | (simp; done) | (simp [*]; done)), (by first | rfl | (simp; done) | (simp [*]; done)), (by first | rfl | (simp; done) | (simp [*]; done)), (by first | rfl | (simp; done) | (simp [*]; done)), H', ⟨by have := HK1.out; omega⟩, ⟨by repeat (first | (with_reducible first | exact HB.out | apply below_alloc | apply pw_below_drewN | apply below_drew1) | exact HB.out)⟩⟩
                        · rw [if_neg c61] at H
                          have c61b0 : ((bt a0 x7_1) == 13) = false := beq_eq_false_iff_ne.mpr c61
                          have c61b1 : ((bt a0 x7_1) != 13) = true := bne_iff_ne.mpr c61
                          by_cases c63 : x6_1 = true
                          · subst c63
                            have H1 : (backstepref02_Kind.l0 k1 a0 false t130 ((bt a0 x7_1) == 10) ((bt a0 x7_1) != 10) (wrap64 (x7_1 + 1))) = some r := by rw [if_pos rfl] at H; exact H
                            clear H
                            have H := H1
                            clear H1
                            have H' := Aside0.mk H
                            clear H
                            have p9 : 0 ≤ (x7_1 : Int) := of_decide_eq_true (by first | (with_reducible assumption) | assumption)
                            have q9 : x7_1 < (a0.size : Int) := of_decide_eq_true (by first | (with_reducible assumption) | assumption)
                            have hx9 := bt_at a0 x7_1
                            replace p9 := eq_true p9
                            replace q9 := eq_true q9
                            go_wp2_with (first | (go_at_call 37; (with_reducible refine (backstepref02_digit.calls (bt a0 x7_1) t130 _ A55.out).mono ?_); rintro e w' ⟨rfl, ⟨nd, rfl⟩⟩; (try first | exact ⟨rfl, _, World.drewN_drewN _ _ _⟩ | exact ⟨rfl, _, Eq.trans (World.drewN_drewN _ _ _) (congrArg (World.drewN _) (Nat.add_assoc _ _ _))⟩)))
                            repeat (go_quiet (first | (go_at_call 37; (with_reducible refine (backstepref02_digit.calls (bt a0 x7_1) t130 _ A55.out).mono ?_); rintro e w' ⟨rfl, ⟨nd, rfl⟩⟩; (try first | exact ⟨rfl, _, World.drewN_drewN _ _ _⟩ | exact ⟨rfl, _, Eq.trans (World.drewN_drewN _ _ _) (congrArg (World.drewN _) (Nat.add_assoc _ _ _))⟩))); try go_wp2_with (first | (go_at_call 37; (with_reducible refine (backstepref02_digit.calls (bt a0 x7_1) t130 _ A55.out).mono ?_); rintro e w' ⟨rfl, ⟨nd, rfl⟩⟩; (try first | exact ⟨rfl, _, World.drewN_drewN _ _ _⟩ | exact ⟨rfl, _, Eq.trans (World.drewN_drewN _ _ _) (congrArg (World.drewN _) (Nat.add_assoc _ _ _))⟩))))
                            go_roundg k1
                            case measure => have := HK1.out; omega
                            case rel => exact ⟨(false), (t130), (((bt a0 x7_1) == 10)), (((bt a0 x7_1) != 10)), (wrap64 (x7_1 + 1)), (by first | rfl | (simp; done) | (simp [*]; done)), (by first | rfl | (simp; done) | (simp [*]; done)), (by first | rfl | (simp; done) | (simp [*]; done)), (by first | rfl | (simp; done) | (simp [*]; done)), (by first | rfl | (simp; done) | (simp [*]; done)), H', ⟨by have := HK1.out; omega⟩, ⟨by repeat (first | (with_reducible first | exact HB.out | apply below_alloc | apply pw_below_drewN | apply below_drew1) | exact HB.out)⟩⟩
                          · replace c63 := Bool.eq_false_iff.mpr c63
                            subst c63
                            have H1 : (backstepref02_Kind.l0 k1 a0 false t130 ((bt a0 x7_1) == 10) false (wrap64 (x7_1 + 1))) = some r := by rw [if_neg (show ¬ (false = true) by decide)] at H; exact H
                            clear H
                            have H := H1
                            clear H1
                            have H' := Aside0.mk H
                            clear H
                            have p9 : 0 ≤ (x7_1 : Int) := of_decide_eq_true (by first | (with_reducible assumption) | assumption)
                            have q9 : x7_1 < (a0.size : Int) := of_decide_eq_true (by first | (with_reducible assumption) | assumption)
                            have hx9 := bt_at a0 x7_1
                            replace p9 := eq_true p9
                            replace q9 := eq_true q9
                            go_wp2_with (first | (go_at_call 37; (with_reducible refine (backstepref02_digit.calls (bt a0 x7_1) t130 _ A55.out).mono ?_); rintro e w' ⟨rfl, ⟨nd, rfl⟩⟩; (try first | exact ⟨rfl, _, World.drewN_drewN _ _ _⟩ | exact ⟨rfl, _, Eq.trans (World.drewN_drewN _ _ _) (congrArg (World.drewN _) (Nat.add_assoc _ _ _))⟩)))
                            repeat (go_quiet (first | (go_at_call 37; (with_reducible refine (backstepref02_digit.calls (bt a0 x7_1) t130 _ A55.out).mono ?_); rintro e w' ⟨rfl, ⟨nd, rfl⟩⟩; (try first | exact ⟨rfl, _, World.drewN_drewN _ _ _⟩ | exact ⟨rfl, _, Eq.trans (World.drewN_drewN _ _ _) (congrArg (World.drewN _) (Nat.add_assoc _ _ _))⟩))); try go_wp2_with (first | (go_at_call 37; (with_reducible refine (backstepref02_digit.calls (bt a0 x7_1) t130 _ A55.out).mono ?_); rintro e w' ⟨rfl, ⟨nd, rfl⟩⟩; (try first | exact ⟨rfl, _, World.drewN_drewN _ _ _⟩ | exact ⟨rfl, _, Eq.trans (World.drewN_drewN _ _ _) (congrArg (World.drewN _) (Nat.add_assoc _ _ _))⟩))))
                            go_roundg k1
                            case measure => have := HK1.out; omega
                            case rel => exact ⟨(false), (t130), (((bt a0 x7_1) == 10)), (false), (wrap64 (x7_1 + 1)), (by first | rfl | (simp; done) | (simp [*]; done)), (by first | rfl | (simp; done) | (simp [*]; done)), (by first | rfl | (simp; done) | (simp [*]; done)), (by first | rfl | (simp; done) | (simp [*]; done)), (by first | rfl | (simp; done) | (simp [*]; done)), H', ⟨by have := HK1.out; omega⟩, ⟨by repeat (first | (with_reducible first | exact HB.out | apply below_alloc | apply pw_below_drewN | apply below_drew1) | exact HB.out)⟩⟩
                  · replace c56 := Bool.eq_false_iff.mpr c56
                    subst c56
                    have H1 : (if x6_1 = true then (backstepref02_Kind.l0 k1 a0 false t130 false ((bt a0 x7_1) != 10) (wrap64 (x7_1 + 1))) else (backstepref02_Kind.l0 k1 a0 false t130 false false (wrap64 (x7_1 + 1)))) = some r := by rw [if_neg (show ¬ (false = true) by decide)] at H; exact H
                    clear H
                    have H := H1
                    clear H1
                    by_cases c64 : x6_1 = true
                    · subst c64
                      have H1 : (backstepref02_Kind.l0 k1 a0 false t130 false ((bt a0 x7_1) != 10) (wrap64 (x7_1 + 1))) = some r := by rw [if_pos rfl] at H; exact H
                      clear H
                      have H := H1
                      clear H1
                      have H' := Aside0.mk H
                      clear H
                      have p9 : 0 ≤ (x7_1 : Int) := of_decide_eq_true (by first | (with_reducible assumption) | assumption)
                      have q9 : x7_1 < (a0.size : Int) := of_decide_eq_true (by first | (with_reducible assumption) | assumption)
                      have hx9 := bt_at a0 x7_1
                      replace p9 := eq_true p9
                      replace q9 := eq_true q9
                      go_wp2_with (first | (go_at_call 37; (with_reducible refine (backstepref02_digit.calls (bt a0 x7_1) t130 _ A55.out).mono ?_); rintro e w' ⟨rfl, ⟨nd, rfl⟩⟩; (try first | exact ⟨rfl, _, World.drewN_drewN _ _ _⟩ | exact ⟨rfl, _, Eq.trans (World.drewN_drewN _ _ _) (congrArg (World.drewN _) (Nat.add_assoc _ _ _))⟩)))
                      repeat (go_quiet (first | (go_at_call 37; (with_reducible refine (backstepref02_digit.calls (bt a0 x7_1) t130 _ A55.out).mono ?_); rintro e w' ⟨rfl, ⟨nd, rfl⟩⟩; (try first | exact ⟨rfl, _, World.drewN_drewN _ _ _⟩ | exact ⟨rfl, _, Eq.trans (World.drewN_drewN _ _ _) (congrArg (World.drewN _) (Nat.add_assoc _ _ _))⟩))); try go_wp2_with (first | (go_at_call 37; (with_reducible refine (backstepref02_digit.calls (bt a0 x7_1) t130 _ A55.out).mono ?_); rintro e w' ⟨rfl, ⟨nd, rfl⟩⟩; (try first | exact ⟨rfl, _, World.drewN_drewN _ _ _⟩ | exact ⟨rfl, _, Eq.trans (World.drewN_drewN _ _ _) (congrArg (World.drewN _) (Nat.add_assoc _ _ _))⟩))))
                      go_roundg k1
                      case measure => have := HK1.out; omega
                      case rel => exact ⟨(false), (t130), (false), (((bt a0 x7_1) != 10)), (wrap64 (x7_1 + 1)), (by first | rfl | (simp; done) | (simp [*]; done)), (by first | rfl | (simp; done) | (simp [*]; done)), (by first | rfl | (simp; done) | (simp [*]; done)), (by first | rfl | (simp; done) | (simp [*]; done)), (by first | rfl | (simp; done) | (simp [*]; done)), H', ⟨by have := HK1.out; omega⟩, ⟨by repeat (first | (with_reducible first | exact HB.out | apply below_alloc | apply pw_below_drewN | apply below_drew1) | exact HB.out)⟩⟩
                    · replace c64 := Bool.eq_false_iff.mpr c64
                      subst c64
                      have H1 : (backstepref02_Kind.l0 k1 a0 false t130 false false (wrap64 (x7_1 + 1))) = some r := by rw [if_neg (show ¬ (false = true) by decide)] at H; exact H
                      clear H
                      have H := H1
                      clear H1
                      have H' := Aside0.mk H
                      clear H
                      have p9 : 0 ≤ (x7_1 : Int) := of_decide_eq_true (by first | (with_reducible assumption) | assumption)
                      have q9 : x7_1 < (a0.size : Int) := of_decide_eq_true (by first | (with_reducible assumption) | assumption)
                      have hx9 := bt_at a0 x7_1
                      replace p9 := eq_true p9
                      replace q9 := eq_true q9
                      go_wp2_with (first | (go_at_call 37; (with_reducible refine (backstepref02_digit.calls (bt a0 x7_1) t130 _ A55.out).mono ?_); rintro e w' ⟨rfl, ⟨nd, rfl⟩⟩; (try first | exact ⟨rfl, _, World.drewN_drewN _ _ _⟩ | exact ⟨rfl, _, Eq.trans (World.drewN_drewN _ _ _) (congrArg (World.drewN _) (Nat.add_assoc _ _ _))⟩)))
                      repeat (go_quiet (first | (go_at_call 37; (with_reducible refine (backstepref02_digit.calls (bt a0 x7_1) t130 _ A55.out).mono ?_); rintro e w' ⟨rfl, ⟨nd, rfl⟩⟩; (try first | exact ⟨rfl, _, World.drewN_drewN _ _ _⟩ | exact ⟨rfl, _, Eq.trans (World.drewN_drewN _ _ _) (congrArg (World.drewN _) (Nat.add_assoc _ _ _))⟩))); try go_wp2_with (first | (go_at_call 37; (with_reducible refine (backstepref02_digit.calls (bt a0 x7_1) t130 _ A55.out).mono ?_); rintro e w' ⟨rfl, ⟨nd, rfl⟩⟩; (try first | exact ⟨rfl, _, World.drewN_drewN _ _ _⟩ | exact ⟨rfl, _, Eq.trans (World.drewN_drewN _ _ _) (congrArg (World.drewN _) (Nat.add_assoc _ _ _))⟩))))
                      go_roundg k1
                      case measure => have := HK1.out; omega
                      case rel => exact ⟨(false), (t130), (false), (false), (wrap64 (x7_1 + 1)), (by first | rfl | (simp; done) | (simp [*]; done)), (by first | rfl | (simp; done) | (simp [*]; done)), (by first | rfl | (simp; done) | (simp [*]; done)), (by first | rfl | (simp; done) | (simp [*]; done)), (by first | rfl | (simp; done) | (simp [*]; done)), H', ⟨by have := HK1.out; omega⟩, ⟨by repeat (first | (with_reducible first | exact HB.out | apply below_alloc | apply pw_below_drewN | apply below_drew1) | exact HB.out)⟩⟩
                · replace c54 := Bool.eq_false_iff.mpr c54
                  subst c54
                  have H1 : (if x5_1 = true then (if (bt a0 x7_1) = 32 then (if x6_1 = true then (backstepref02_Kind.l0 k1 a0 false false true ((bt a0 x7_1) != 10) (wrap64 (x7_1 + 1))) else (backstepref02_Kind.l0 k1 a0 false false true false (wrap64 (x7_1 + 1)))) else (if (bt a0 x7_1) = 9 then (if x6_1 = true then (backstepref02_Kind.l0 k1 a0 false false true ((bt a0 x7_1) != 10) (wrap64 (x7_1 + 1))) else (backstepref02_Kind.l0 k1 a0 false false true false (wrap64 (x7_1 + 1)))) else (if (bt a0 x7_1) = 13 then (if x6_1 = true then (backstepref02_Kind.l0 k1 a0 false false true ((bt a0 x7_1) != 10) (wrap64 (x7_1 + 1))) else (backstepref02_Kind.l0 k1 a0 false false true false (wrap64 (x7_1 + 1)))) else (if x6_1 = true then (backstepref02_Kind.l0 k1 a0 false false ((bt a0 x7_1) == 10) ((bt a0 x7_1) != 10) (wrap64 (x7_1 + 1))) else (backstepref02_Kind.l0 k1 a0 false false ((bt a0 x7_1) == 10) false (wrap64 (x7_1 + 1))))))) else (if x6_1 = true then (backstepref02_Kind.l0 k1 a0 false false false ((bt a0 x7_1) != 10) (wrap64 (x7_1 + 1))) else (backstepref02_Kind.l0 k1 a0 false false false false (wrap64 (x7_1 + 1))))) = some r := by rw [if_neg (show ¬ (false = true) by decide)] at H; exact H
                  clear H
                  have H := H1
                  clear H1
                  by_cases c65 : x5_1 = true
                  · subst c65
                    have H1 : (if (bt a0 x7_1) = 32 then (if x6_1 = true then (backstepref02_Kind.l0 k1 a0 false false true ((bt a0 x7_1) != 10) (wrap64 (x7_1 + 1))) else (backstepref02_Kind.l0 k1 a0 false false true false (wrap64 (x7_1 + 1)))) else (if (bt a0 x7_1) = 9 then (if x6_1 = true then (backstepref02_Kind.l0 k1 a0 false false true ((bt a0 x7_1) != 10) (wrap64 (x7_1 + 1))) else (backstepref02_Kind.l0 k1 a0 false false true false (wrap64 (x7_1 + 1)))) else (if (bt a0 x7_1) = 13 then (if x6_1 = true then (backstepref02_Kind.l0 k1 a0 false false true ((bt a0 x7_1) != 10) (wrap64 (x7_1 + 1))) else (backstepref02_Kind.l0 k1 a0 false false true false (wrap64 (x7_1 + 1)))) else (if x6_1 = true then (backstepref02_Kind.l0 k1 a0 false false ((bt a0 x7_1) == 10) ((bt a0 x7_1) != 10) (wrap64 (x7_1 + 1))) else (backstepref02_Kind.l0 k1 a0 false false ((bt a0 x7_1) == 10) false (wrap64 (x7_1 + 1))))))) = some r := by rw [if_pos rfl] at H; exact H
                    clear H
                    have H := H1
                    clear H1
                    by_cases c66 : (bt a0 x7_1) = 32
                    · rw [if_pos c66] at H
                      have c66b0 : ((bt a0 x7_1) == 32) = true := beq_iff_eq.mpr c66
                      have c66b1 : ((bt a0 x7_1) != 32) = false := bne_eq_false_iff_eq.mpr c66
                      clear c66
                      by_cases c67 : x6_1 = true
                      · subst c67
                        have H1 : (backstepref02_Kind.l0 k1 a0 false false true ((bt a0 x7_1) != 10) (wrap64 (x7_1 + 1))) = some r := by rw [if_pos rfl] at H; exact H
                        clear H
                        have H := H1
                        clear H1
                        have H' := Aside0.mk H
                        clear H
                        have p9 : 0 ≤ (x7_1 : Int) := of_decide_eq_true (by first | (with_reducible assumption) | assumption)
                        have q9 : x7_1 < (a0.size : Int) := of_decide_eq_true (by first | (with_reducible assumption) | assumption)
                        have hx9 := bt_at a0 x7_1
                        replace p9 := eq_true p9
                        replace q9 := eq_true q9
                        go_wp2
                        repeat (go_quiet (fail); try go_wp2)
                        go_roundg k1
                        case measure => have := HK1.out; omega
                        case rel => exact ⟨(false), (false), (true), (((bt a0 x7_1) != 10)), (wrap64 (x7_1 + 1)), (by first | rfl | (simp; done) | (simp [*]; done)), (by first | rfl | (simp; done) | (simp [*]; done)), (by first | rfl | (simp; done) | (simp [*]; done)), (by first | rfl | (simp; done) | (simp [*]; done)), (by first | rfl | (simp; done) | (simp [*]; done)), H', ⟨by have := HK1.out; omega⟩, ⟨by repeat (first | (with_reducible first | exact HB.out | apply below_alloc | apply pw_below_drewN | apply below_drew1) | exact HB.out)⟩⟩
                      · replace c67 := Bool.eq_false_iff.mpr c67
                        subst c67
                        have H1 : (backstepref02_Kind.l0 k1 a0 false false true false (wrap64 (x7_1 + 1))) = some r := by rw [if_neg (show ¬ (false = true) by decide)] at H; exact H
                        clear H
                        have H := H1
                        clear H1
                        have H' := Aside0.mk H
                        clear H
                        have p9 : 0 ≤ (x7_1 : Int) := of_decide_eq_true (by first | (with_reducible assumption) | assumption)
                        have q9 : x7_1 < (a0.size : Int) := of_decide_eq_true (by first | (with_reducible assumption) | assumption)
                        have hx9 := bt_at a0 x7_1
                        replace p9 := eq_true p9
                        replace q9 := eq_true q9
                        go_wp2
                        repeat (go_quiet (fail); try go_wp2)
                        go_roundg k1
                        case measure => have := HK1.out; omega
                        case rel => exact ⟨(false), (false), (true), (false), (wrap64 (x7_1 + 1)), (by first | rfl | (simp; done) | (simp [*]; done)), (by first | rfl | (simp; done) | (simp [*]; done)), (by first | rfl | (simp; done) | (simp [*]; done)), (by first | rfl | (simp; done) | (simp [*]; done)), (by first | rfl | (simp; done) | (simp [*]; done)), H', ⟨by have := HK1.out; omega⟩, ⟨by repeat (first | (with_reducible first | exact HB.out | apply below_alloc | apply pw_below_drewN | apply below_drew1) | exact HB.out)⟩⟩
                    · rw [if_neg c66] at H
                      have c66b0 : ((bt a0 x7_1) == 32) = false := beq_eq_false_iff_ne.mpr c66
                      have c66b1 : ((bt a0 x7_1) != 32) = true := bne_iff_ne.mpr c66
                      by_cases c68 : (bt a0 x7_1) = 9
                      · rw [if_pos c68] at H
                        have c68b0 : ((bt a0 x7_1) == 9) = true := beq_iff_eq.mpr c68
                        have c68b1 : ((bt a0 x7_1) != 9) = false := bne_eq_false_iff_eq.mpr c68
                        clear c68
                        by_cases c69 : x6_1 = true
                        · subst c69
                          have H1 : (backstepref02_Kind.l0 k1 a0 false false true ((bt a0 x7_1) != 10) (wrap64 (x7_1 + 1))) = some r := by rw [if_pos rfl] at H; exact H
                          clear H
                          have H := H1
                          clear H1
                          have H' := Aside0.mk H
                          clear H
                          have p9 : 0 ≤ (x7_1 : Int) := of_decide_eq_true (by first | (with_reducible assumption) | assumption)
                          have q9 : x7_1 < (a0.size : Int) := of_decide_eq_true (by first | (with_reducible assumption) | assumption)
                          have hx9 := bt_at a0 x7_1
                          replace p9 := eq_true p9
                          replace q9 := eq_true q9
                          go_wp2
                          repeat (go_quiet (fail); try go_wp2)
                          go_roundg k1
                          case measure => have := HK1.out; omega
                          case rel => exact ⟨(false), (false), (true), (((bt a0 x7_1) != 10)), (wrap64 (x7_1 + 1)), (by first | rfl | (simp; done) | (simp [*]; done)), (by first | rfl | (simp; done) | (simp [*]; done)), (by first | rfl | (simp; done) | (simp [*]; done)), (by first | rfl | (simp; done) | (simp [*]; done)), (by first | rfl | (simp; done) | (simp [*]; done)), H', ⟨by have := HK1.out; omega⟩, ⟨by repeat (first | (with_reducible first | exact HB.out | apply below_alloc | apply pw_below_drewN | apply below_drew1) | exact HB.out)⟩⟩
                        · replace c69 := Bool.eq_false_iff.mpr c69
                          subst c69
                          have H1 : (backstepref02_Kind.l0 k1 a0 false false true false (wrap64 (x7_1 + 1))) = some r := by rw [if_neg (show ¬ (false = true) by decide)] at H; exact H
                          clear H
                          have H := H1
                          clear H1
                          have H' := Aside0.mk H
                          clear H
                          have p9 : 0 ≤ (x7_1 : Int) := of_decide_eq_true (by first | (with_reducible assumption) | assumption)
                          have q9 : x7_1 < (a0.size : Int) := of_decide_eq_true (by first | (with_reducible assumption) | assumption)
                          have hx9 := bt_at a0 x7_1
                          replace p9 := eq_true p9
                          replace q9 := eq_true q9
                          go_wp2
                          repeat (go_quiet (fail); try go_wp2)
                          go_roundg k1
                          case measure => have := HK1.out; omega
                          case rel => exact ⟨(false), (false), (true), (false), (wrap64 (x7_1 + 1)), (by first | rfl | (simp; done) | (simp [*]; done)), (by first | rfl | (simp; done) | (simp [*]; done)), (by first | rfl | (simp; done) | (simp [*]; done)), (by first | rfl | (simp; done) | (simp [*]; done)), (by first | rfl | (simp; done) | (simp [*]; done)), H', ⟨by have := HK1.out; omega⟩, ⟨by repeat (first | (with_reducible first | exact HB.out | apply below_alloc | apply pw_below_drewN | apply below_drew1) | exact HB.out)⟩⟩
                      · rw [if_neg c68] at H
                        have c68b0 : ((bt a0 x7_1) == 9) = false := beq_eq_false_iff_ne.mpr c68
                        have c68b1 : ((bt a0 x7_1) != 9) = true := bne_iff_ne.mpr c68
                        by_cases c70 : (bt a0 x7_1) = 13
                        · rw [if_pos c70] at H
                          have c70b0 : ((bt a0 x7_1) == 13) = true := beq_iff_eq.mpr c70
                          have c70b1 : ((bt a0 x7_1) != 13) = false := bne_eq_false_iff_eq.mpr c70
                          clear c70
                          by_cases c71 : x6_1 = true
                          · subst c71
                            have H1 : (backstepref02_Kind.l0 k1 a0 false false true ((bt a0 x7_1) != 10) (wrap64 (x7_1 + 1))) = some r := by rw [if_pos rfl] at H; exact H
                            clear H
                            have H := H1
                            clear H1
                            have H' := Aside0.mk H
                            clear H
                            have p9 : 0 ≤ (x7_1 : Int) := of_decide_eq_true (by first | (with_reducible assumption) | assumption)
                            have q9 : x7_1 < (a0.size : Int) := of_decide_eq_true (by first | (with_reducible assumption) | assumption)
                            have hx9 := bt_at a0 x7_1
                            replace p9 := eq_true p9
                            replace q9 := eq_true q9
                            go_wp2
                            repeat (go_quiet (fail); try go_wp2)
                            go_roundg k1
                            case measure => have := HK1.out; omega
                            case rel => exact ⟨(false), (false), (true), (((bt a0 x7_1) != 10)), (wrap64 (x7_1 + 1)), (by first | rfl | (simp; done) | (simp [*]; done)), (by first | rfl | (simp; done) | (simp [*]; done)), (by first | rfl | (simp; done) | (simp [*]; done)), (by first | rfl | (simp; done) | (simp [*]; done)), (by first | rfl | (simp; done) | (simp [*]; done)), H', ⟨by have := HK1.out; omega⟩, ⟨by repeat (first | (with_reducible first | exact HB.out | apply below_alloc | apply pw_below_drewN | apply below_drew1) | exact HB.out)⟩⟩
                          · replace c71 := Bool.eq_false_iff.mpr c71
                            subst c71
                            have H1 : (backstepref02_Kind.l0 k1 a0 false false true false (wrap64 (x7_1 + 1))) = some r := by rw [if_neg (show ¬ (false = true) by decide)] at H; exact H
                            clear H
                            have H := H1
                            clear H1
                            have H' := Aside0.mk H
                            clear H
                            have p9 : 0 ≤ (x7_1 : Int) := of_decide_eq_true (by first | (with_reducible assumption) | assumption)
                            have q9 : x7_1 < (a0.size : Int) := of_decide_eq_true (by first | (with_reducible assumption) | assumption)
                            have hx9 := bt_at a0 x7_1
                            replace p9 := eq_true p9
                            replace q9 := eq_true q9
                            go_wp2
                            repeat (go_quiet (fail); try go_wp2)
                            go_roundg k1
                            case measure => have := HK1.out; omega
                            case rel => exact ⟨(false), (false), (true), (false), (wrap64 (x7_1 + 1)), (by first | rfl | (simp; done) | (simp [*]; done)), (by first | rfl | (simp; done) | (simp [*]; done)), (by first | rfl | (simp; done) | (simp [*]; done)), (by first | rfl | (simp; done) | (simp [*]; done)), (by first | rfl | (simp; done) | (simp [*]; done)), H', ⟨by have := HK1.out; omega⟩, ⟨by repeat (first | (with_reducible first | exact HB.out | apply below_alloc | apply pw_below_drewN | apply below_drew1) | exact HB.out)⟩⟩
                        · rw [if_neg c70] at H
                          have c70b0 : ((bt a0 x7_1) == 13) = false := beq_eq_false_iff_ne.mpr c70
                          have c70b1 : ((bt a0 x7_1) != 13) = true := bne_iff_ne.mpr c70
                          by_cases c72 : x6_1 = true
                          · subst c72
                            have H1 : (backstepref02_Kind.l0 k1 a0 false false ((bt a0 x7_1) == 10) ((bt a0 x7_1) != 10) (wrap64 (x7_1 + 1))) = some r := by rw [if_pos rfl] at H; exact H
                            clear H
                            have H := H1
                            clear H1
                            have H' := Aside0.mk H
                            clear H
                            have p9 : 0 ≤ (x7_1 : Int) := of_decide_eq_true (by first | (with_reducible assumption) | assumption)
                            have q9 : x7_1 < (a0.size : Int) := of_decide_eq_true (by first | (with_reducible assumption) | assumption)
                            have hx9 := bt_at a0 x7_1
                            replace p9 := eq_true p9
                            replace q9 := eq_true q9
                            go_wp2
                            repeat (go_quiet (fail); try go_wp2)
                            go_roundg k1
                            case measure => have := HK1.out; omega
                            case rel => exact ⟨(false), (false), (((bt a0 x7_1) == 10)), (((bt a0 x7_1) != 10)), (wrap64 (x7_1 + 1)), (by first | rfl | (simp; done) | (simp [*]; done)), (by first | rfl | (simp; done) | (simp [*]; done)), (by first | rfl | (simp; done) | (simp [*]; done)), (by first | rfl | (simp; done) | (simp [*]; done)), (by first | rfl | (simp; done) | (simp [*]; done)), H', ⟨by have := HK1.out; omega⟩, ⟨by repeat (first | (with_reducible first | exact HB.out | apply below_alloc | apply pw_below_drewN | apply below_drew1) | exact HB.out)⟩⟩
                          · replace c72 := Bool.eq_false_iff.mpr c72
                            subst c72
                            have H1 : (backstepref02_Kind.l0 k1 a0 false false ((bt a0 x7_1) == 10) false (wrap64 (x7_1 + 1))) = some r := by rw [if_neg (show ¬ (false = true) by decide)] at H; exact H
                            clear H
                            have H := H1
                            clear H1
                            have H' := Aside0.mk H
                            clear H
                            have p9 : 0 ≤ (x7_1 : Int) := of_decide_eq_true (by first | (with_reducible assumption) | assumption)
                            have q9 : x7_1 < (a0.size : Int) := of_decide_eq_true (by first | (with_reducible assumption) | assumption)
                            have hx9 := bt_at a0 x7_1
                            replace p9 := eq_true p9
                            replace q9 := eq_true q9
                            go_wp2
                            repeat (go_quiet (fail); try go_wp2)
                            go_roundg k1
                            case measure => have := HK1.out; omega
                            case rel => exact ⟨(false), (false), (((bt a0 x7_1) == 10)), (false), (wrap64 (x7_1 + 1)), (by first | rfl | (simp; done) | (simp [*]; done)), (by first | rfl | (simp; done) | (simp [*]; done)), (by first | rfl | (simp; done) | (simp [*]; done)), (by first | rfl | (simp; done) | (simp [*]; done)), (by first | rfl | (simp; done) | (simp [*]; done)), H', ⟨by have := HK1.out; omega⟩, ⟨by repeat (first | (with_reducible first | exact HB.out | apply below_alloc | apply pw_below_drewN | apply below_drew1) | exact HB.out)⟩⟩
                  · replace c65 := Bool.eq_false_iff.mpr c65
                    subst c65
                    have H1 : (if x6_1 = true then (backstepref02_Kind.l0 k1 a0 false false false ((bt a0 x7_1) != 10) (wrap64 (x7_1 + 1))) else (backstepref02_Kind.l0 k1 a0 false false false false (wrap64 (x7_1 + 1)))) = some r := by rw [if_neg (show ¬ (false = true) by decide)] at H; exact H
                    clear H
                    have H := H1
                    clear H1
                    by_cases c73 : x6_1 = true
                    · subst c73
                      have H1 : (backstepref02_Kind.l0 k1 a0 false false false ((bt a0 x7_1) != 10) (wrap64 (x7_1 + 1))) = some r := by rw [if_pos rfl] at H; exact H
                      clear H
                      have H := H1
                      clear H1
                      have H' := Aside0.mk H
                      clear H
                      have p9 : 0 ≤ (x7_1 : Int) := of_decide_eq_true (by first | (with_reducible assumption) | assumption)
                      have q9 : x7_1 < (a0.size : Int) := of_decide_eq_true (by first | (with_reducible assumption) | assumption)
                      have hx9 := bt_at a0 x7_1
                      replace p9 := eq_true p9
                      replace q9 := eq_true q9
                      go_wp2
                      repeat (go_quiet (fail); try go_wp2)
                      go_roundg k1
                      case measure => have := HK1.out; omega
                      case rel => exact ⟨(false), (false), (false), (((bt a0 x7_1) != 10)), (wrap64 (x7_1 + 1)), (by first | rfl | (simp; done) | (simp [*]; done)), (by first | rfl | (simp; done) | (simp [*]; done)), (by first | rfl | (simp; done) | (simp [*]; done)), (by first | rfl | (simp; done) | (simp [*]; done)), (by first | rfl | (simp; done) | (simp [*]; done)), H', ⟨by have := HK1.out; omega⟩, ⟨by repeat (first | (with_reducible first | exact HB.out | apply below_alloc | apply pw_below_drewN | apply below_drew1) | exact HB.out)⟩⟩
                    · replace c73 := Bool.eq_false_iff.mpr c73
                      subst c73
                      have H1 : (backstepref02_Kind.l0 k1 a0 false false false false (wrap64 (x7_1 + 1))) = some r := by rw [if_neg (show ¬ (false = true) by decide)] at H; exact H
                      clear H
                      have H := H1
                      clear H1
                      have H' := Aside0.mk H
                      clear H
                      have p9 : 0 ≤ (x7_1 : Int) := of_decide_eq_true (by first | (with_reducible assumption) | assumption)
                      have q9 : x7_1 < (a0.size : Int) := of_decide_eq_true (by first | (with_reducible assumption) | assumption)
                      have hx9 := bt_at a0 x7_1
                      replace p9 := eq_true p9
                      replace q9 := eq_true q9
                      go_wp2
                      repeat (go_quiet (fail); try go_wp2)
                      go_roundg k1
                      case measure => have := HK1.out; omega
                      case rel => exact ⟨(false), (false), (false), (false), (wrap64 (x7_1 + 1)), (by first | rfl | (simp; done) | (simp [*]; done)), (by first | rfl | (simp; done) | (simp [*]; done)), (by first | rfl | (simp; done) | (simp [*]; done)), (by first | rfl | (simp; done) | (simp [*]; done)), (by first | rfl | (simp; done) | (simp [*]; done)), H', ⟨by have := HK1.out; omega⟩, ⟨by repeat (first | (with_reducible first | exact HB.out | apply below_alloc | apply pw_below_drewN | apply below_drew1) | exact HB.out)⟩⟩
            · rw [if_neg c8] at H
              exact absurd H (by simp)
          · rw [if_neg c7] at H
            have c7b0 : decide (x7_1 < (a0.size : Int)) = false := decide_eq_false c7
            clear c7
            by_cases c74 : x3_1 = true
            · subst c74
              have H1 : (some 1) = some r := by rw [if_pos rfl] at H; exact H
              clear H
              have H := H1
              clear H1
              obtain rfl := Option.some.inj H
              go_wp2
              repeat (go_quiet (fail); try go_wp2)
              go_ret
              exact ⟨by first | rfl | (simp [errW_none, errW_some] <;> rfl) | (simp [*, errW_none, errW_some] <;> rfl), by repeat (first | (with_reducible first | exact HB.out | apply below_alloc | apply pw_below_drewN | apply below_drew1) | exact HB.out)⟩
            · replace c74 := Bool.eq_false_iff.mpr c74
              subst c74
              have H1 : (if x4_1 = true then (some 2) else ((backstepref02_Signs.f).bind fun t131 => ((backstepref02_In.f k1 t131 a0).bind fun t134 => (if t134 = true then (some 3) else (if x5_1 = true then (some 4) else (if x6_1 = true then (some 5) else (some 0))))))) = some r := by rw [if_neg (show ¬ (false = true) by decide)] at H; exact H
              clear H
              have H := H1
              clear H1
              by_cases c75 : x4_1 = true
              · subst c75
                have H1 : (some 2) = some r := by rw [if_pos rfl] at H; exact H
                clear H
                have H := H1
                clear H1
                obtain rfl := Option.some.inj H
                go_wp2
                repeat (go_quiet (fail); try go_wp2)
                go_ret
                exact ⟨by first | rfl | (simp [errW_none, errW_some] <;> rfl) | (simp [*, errW_none, errW_some] <;> rfl), by repeat (first | (with_reducible first | exact HB.out | apply below_alloc | apply pw_below_drewN | apply below_drew1) | exact HB.out)⟩
              · replace c75 := Bool.eq_false_iff.mpr c75
                subst c75
                have H1 : ((backstepref02_Signs.f).bind fun t131 => ((backstepref02_In.f k1 t131 a0).bind fun t134 => (if t134 = true then (some 3) else (if x5_1 = true then (some 4) else (if x6_1 = true then (some 5) else (some 0)))))) = some r := by rw [if_neg (show ¬ (false = true) by decide)] at H; exact H
                clear H
                have H := H1
                clear H1
                replace H := Option.bind_eq_some_iff.mp H
                obtain ⟨t131, A760, H⟩ := H
                replace H : ((backstepref02_In.f k1 t131 a0).bind fun t134 => (if t134 = true then (some 3) else (if x5_1 = true then (some 4) else (if x6_1 = true then (some 5) else (some 0))))) = some r := H
                have A76 := Aside0.mk A760
                clear A760
                replace H := Option.bind_eq_some_iff.mp H
                obtain ⟨t134, A770, H⟩ := H
                replace H : (if t134 = true then (some 3) else (if x5_1 = true then (some 4) else (if x6_1 = true then (some 5) else (some 0)))) = some r := H
                have A77 := Aside0.mk A770
                clear A770
                by_cases c78 : t134 = true
                · subst c78
                  have H1 : (some 3) = some r := by rw [if_pos rfl] at H; exact H
                  clear H
                  have H := H1
                  clear H1
                  obtain rfl := Option.some.inj H
                  go_wp2_with (first | (go_at_call 38; (with_reducible refine (backstepref02_Signs.calls  t131 _ A76.out).mono ?_); rintro e w79 ⟨v132, rfl, ho0, hb⟩; have n0_ := Aside0.mk (Kd.R_lower ho0 (below_size (by repeat (first | (with_reducible first | exact HB.out | apply below_alloc | apply pw_below_drewN | apply below_drew1) | exact HB.out)))); have n1_ := Aside0.mk (below_step (by repeat (first | (with_reducible first | exact HB.out | apply below_alloc | apply pw_below_drewN | apply below_drew1) | exact HB.out)) hb); clear HB; have HO133 := n0_; have HB := n1_; clear n0_ n1_; (try clear hb); (try clear hb2); (try clear hk); (try clear hi); (try clear ho0); obtain ⟨Ao80, co80, eo80⟩ := Kd.R_slice HO133.out; subst eo80) | (go_at_call 20; (with_reducible refine (backstepref02_In.calls k1 _ _ t131 a0 true _ ?side1 ?side2 A77.out).mono ?_); (case side1 => repeat (first | exact (Kd.R_reads' HO133.out).2.2 | (with_reducible refine Kd.C_alloc ?_ _) | (with_reducible refine Kd.C_drewN ?_ _) | (with_reducible refine Kd.C_drew ?_))); (case side2 => exact (Kd.R_reads' HO133.out).2.1); rintro e w' ⟨rfl, ⟨nd, rfl⟩⟩; (try first | exact ⟨rfl, _, World.drewN_drewN _ _ _⟩ | exact ⟨rfl, _, Eq.trans (World.drewN_drewN _ _ _) (congrArg (World.drewN _) (Nat.add_assoc _ _ _))⟩)))
                  repeat (go_quiet (first | (go_at_call 38; (with_reducible refine (backstepref02_Signs.calls  t131 _ A76.out).mono ?_); rintro e w79 ⟨v132, rfl, ho0, hb⟩; have n0_ := Aside0.mk (Kd.R_lower ho0 (below_size (by repeat (first | (with_reducible first | exact HB.out | apply below_alloc | apply pw_below_drewN | apply below_drew1) | exact HB.out)))); have n1_ := Aside0.mk (below_step (by repeat (first | (with_reducible first | exact HB.out | apply below_alloc | apply pw_below_drewN | apply below_drew1) | exact HB.out)) hb); clear HB; have HO133 := n0_; have HB := n1_; clear n0_ n1_; (try clear hb); (try clear hb2); (try clear hk); (try clear hi); (try clear ho0); obtain ⟨Ao80, co80, eo80⟩ := Kd.R_slice HO133.out; subst eo80) | (go_at_call 20; (with_reducible refine (backstepref02_In.calls k1 _ _ t131 a0 true _ ?side1 ?side2 A77.out).mono ?_); (case side1 => repeat (first | exact (Kd.R_reads' HO133.out).2.2 | (with_reducible refine Kd.C_alloc ?_ _) | (with_reducible refine Kd.C_drewN ?_ _) | (with_reducible refine Kd.C_drew ?_))); (case side2 => exact (Kd.R_reads' HO133.out).2.1); rintro e w' ⟨rfl, ⟨nd, rfl⟩⟩; (try first | exact ⟨rfl, _, World.drewN_drewN _ _ _⟩ | exact ⟨rfl, _, Eq.trans (World.drewN_drewN _ _ _) (congrArg (World.drewN _) (Nat.add_assoc _ _ _))⟩))); try go_wp2_with (first | (go_at_call 38; (with_reducible refine (backstepref02_Signs.calls  t131 _ A76.out).mono ?_); rintro e w79 ⟨v132, rfl, ho0, hb⟩; have n0_ := Aside0.mk (Kd.R_lower ho0 (below_size (by repeat (first | (with_reducible first | exact HB.out | apply below_alloc | apply pw_below_drewN | apply below_drew1) | exact HB.out)))); have n1_ := Aside0.mk (below_step (by repeat (first | (with_reducible first | exact HB.out | apply below_alloc | apply pw_below_drewN | apply below_drew1) | exact HB.out)) hb); clear HB; have HO133 := n0_; have HB := n1_; clear n0_ n1_; (try clear hb); (try clear hb2); (try clear hk); (try clear hi); (try clear ho0); obtain ⟨Ao80, co80, eo80⟩ := Kd.R_slice HO133.out; subst eo80) | (go_at_call 20; (with_reducible refine (backstepref02_In.calls k1 _ _ t131 a0 true _ ?side1 ?side2 A77.out).mono ?_); (case side1 => repeat (first | exact (Kd.R_reads' HO133.out).2.2 | (with_reducible refine Kd.C_alloc ?_ _) | (with_reducible refine Kd.C_drewN ?_ _) | (with_reducible refine Kd.C_drew ?_))); (case side2 => exact (Kd.R_reads' HO133.out).2.1); rintro e w' ⟨rfl, ⟨nd, rfl⟩⟩; (try first | exact ⟨rfl, _, World.drewN_drewN _ _ _⟩ | exact ⟨rfl, _, Eq.trans (World.drewN_drewN _ _ _) (congrArg (World.drewN _) (Nat.add_assoc _ _ _))⟩))))
                  go_ret
                  exact ⟨by first | rfl | (simp [errW_none, errW_some] <;> rfl) | (simp [*, errW_none, errW_some] <;> rfl), by repeat (first | (with_reducible first | exact HB.out | apply below_alloc | apply pw_below_drewN | apply below_drew1) | exact HB.out)⟩
                · replace c78 := Bool.eq_false_iff.mpr c78
                  subst c78
                  have H1 : (if x5_1 = true then (some 4) else (if x6_1 = true then (some 5) else (some 0))) = some r := by rw [if_neg (show ¬ (false = true) by decide)] at H; exact H
                  clear H
                  have H := H1
                  clear H1
                  by_cases c81 : x5_1 = true
                  · subst c81
                    have H1 : (some 4) = some r := by rw [if_pos rfl] at H; exact H
                    clear H
                    have H := H1
                    clear H1
                    obtain rfl := Option.some.inj H
                    go_wp2_with (first | (go_at_call 38; (with_reducible refine (backstepref02_Signs.calls  t131 _ A76.out).mono ?_); rintro e w82 ⟨v132, rfl, ho0, hb⟩; have n0_ := Aside0.mk (Kd.R_lower ho0 (below_size (by repeat (first | (with_reducible first | exact HB.out | apply below_alloc | apply pw_below_drewN | apply below_drew1) | exact HB.out)))); have n1_ := Aside0.mk (below_step (by repeat (first | (with_reducible first | exact HB.out | apply below_alloc | apply pw_below_drewN | apply below_drew1) | exact HB.out)) hb); clear HB; have HO133 := n0_; have HB := n1_; clear n0_ n1_; (try clear hb); (try clear hb2); (try clear hk); (try clear hi); (try clear ho0); obtain ⟨Ao83, co83, eo83⟩ := Kd.R_slice HO133.out; subst eo83) | (go_at_call 20; (with_reducible refine (backstepref02_In.calls k1 _ _ t131 a0 false _ ?side1 ?side2 A77.out).mono ?_); (case side1 => repeat (first | exact (Kd.R_reads' HO133.out).2.2 | (with_reducible refine Kd.C_alloc ?_ _) | (with_reducible refine Kd.C_drewN ?_ _) | (with_reducible refine Kd.C_drew ?_))); (case side2 => exact (Kd.R_reads' HO133.out).2.1); rintro e w' ⟨rfl, ⟨nd, rfl⟩⟩; (try first | exact ⟨rfl, _, World.drewN_drewN _ _ _⟩ | exact ⟨rfl, _, Eq.trans (World.drewN_drewN _ _ _) (congrArg (World.drewN _) (Nat.add_assoc _ _ _))⟩)))
                    repeat (go_quiet (first | (go_at_call 38; (with_reducible refine (backstepref02_Signs.calls  t131 _ A76.out).mono ?_); rintro e w82 ⟨v132, rfl, ho0, hb⟩; have n0_ := Aside0.mk (Kd.R_lower ho0 (below_size (by repeat (first | (with_reducible first | exact HB.out | apply below_alloc | apply pw_below_drewN | apply below_drew1) | exact HB.out)))); have n1_ := Aside0.mk (below_step (by repeat (first | (with_reducible first | exact HB.out | apply below_alloc | apply pw_below_drewN | apply below_drew1) | exact HB.out)) hb); clear HB; have HO133 := n0_; have HB := n1_; clear n0_ n1_; (try clear hb); (try clear hb2); (try clear hk); (try clear hi); (try clear ho0); obtain ⟨Ao83, co83, eo83⟩ := Kd.R_slice HO133.out; subst eo83) | (go_at_call 20; (with_reducible refine (backstepref02_In.calls k1 _ _ t131 a0 false _ ?side1 ?side2 A77.out).mono ?_); (case side1 => repeat (first | exact (Kd.R_reads' HO133.out).2.2 | (with_reducible refine Kd.C_alloc ?_ _) | (with_reducible refine Kd.C_drewN ?_ _) | (with_reducible refine Kd.C_drew ?_))); (case side2 => exact (Kd.R_reads' HO133.out).2.1); rintro e w' ⟨rfl, ⟨nd, rfl⟩⟩; (try first | exact ⟨rfl, _, World.drewN_drewN _ _ _⟩ | exact ⟨rfl, _, Eq.trans (World.drewN_drewN _ _ _) (congrArg (World.drewN _) (Nat.add_assoc _ _ _))⟩))); try go_wp2_with (first | (go_at_call 38; (with_reducible refine (backstepref02_Signs.calls  t131 _ A76.out).mono ?_); rintro e w82 ⟨v132, rfl, ho0, hb⟩; have n0_ := Aside0.mk (Kd.R_lower ho0 (below_size (by repeat (first | (with_reducible first | exact HB.out | apply below_alloc | apply pw_below_drewN | apply below_drew1) | exact HB.out)))); have n1_ := Aside0.mk (below_step (by repeat (first | (with_reducible first | exact HB.out | apply below_alloc | apply pw_below_drewN | apply below_drew1) | exact HB.out)) hb); clear HB; have HO133 := n0_; have HB := n1_; clear n0_ n1_; (try clear hb); (try clear hb2); (try clear hk); (try clear hi); (try clear ho0); obtain ⟨Ao83, co83, eo83⟩ := Kd.R_slice HO133.out; subst eo83) | (go_at_call 20; (with_reducible refine (backstepref02_In.calls k1 _ _ t131 a0 false _ ?side1 ?side2 A77.out).mono ?_); (case side1 => repeat (first | exact (Kd.R_reads' HO133.out).2.2 | (with_reducible refine Kd.C_alloc ?_ _) | (with_reducible refine Kd.C_drewN ?_ _) | (with_reducible refine Kd.C_drew ?_))); (case side2 => exact (Kd.R_reads' HO133.out).2.1); rintro e w' ⟨rfl, ⟨nd, rfl⟩⟩; (try first | exact ⟨rfl, _, World.drewN_drewN _ _ _⟩ | exact ⟨rfl, _, Eq.trans (World.drewN_drewN _ _ _) (congrArg (World.drewN _) (Nat.add_assoc _ _ _))⟩))))
                    go_ret
                    exact ⟨by first | rfl | (simp [errW_none, errW_some] <;> rfl) | (simp [*, errW_none, errW_some] <;> rfl), by repeat (first | (with_reducible first | exact HB.out | apply below_alloc | apply pw_below_drewN | apply below_drew1) | exact HB.out)⟩
                  · replace c81 := Bool.eq_false_iff.mpr c81
                    subst c81
                    have H1 : (if x6_1 = true then (some 5) else (some 0)) = some r := by rw [if_neg (show ¬ (false = true) by decide)] at H; exact H
                    clear H
                    have H := H1
                    clear H1
                    by_cases c84 : x6_1 = true
                    · subst c84
                      have H1 : (some 5) = some r := by rw [if_pos rfl] at H; exact H
                      clear H
                      have H := H1
                      clear H1
                      obtain rfl := Option.some.inj H
                      go_wp2_with (first | (go_at_call 38; (with_reducible refine (backstepref02_Signs.calls  t131 _ A76.out).mono ?_); rintro e w85 ⟨v132, rfl, ho0, hb⟩; have n0_ := Aside0.mk (Kd.R_lower ho0 (below_size (by repeat (first | (with_reducible first | exact HB.out | apply below_alloc | apply pw_below_drewN | apply below_drew1) | exact HB.out)))); have n1_ := Aside0.mk (below_step (by repeat (first | (with_reducible first | exact HB.out | apply below_alloc | apply pw_below_drewN | apply below_drew1) | exact HB.out)) hb); clear HB; have HO133 := n0_; have HB := n1_; clear n0_ n1_; (try clear hb); (try clear hb2); (try clear hk); (try clear hi); (try clear ho0); obtain ⟨Ao86, co86, eo86⟩ := Kd.R_slice HO133.out; subst eo86) | (go_at_call 20; (with_reducible refine (backstepref02_In.calls k1 _ _ t131 a0 false _ ?side1 ?side2 A77.out).mono ?_); (case side1 => repeat (first | exact (Kd.R_reads' HO133.out).2.2 | (with_reducible refine Kd.C_alloc ?_ _) | (with_reducible refine Kd.C_drewN ?_ _) | (with_reducible refine Kd.C_drew ?_))); (case side2 => exact (Kd.R_reads' HO133.out).2.1); rintro e w' ⟨rfl, ⟨nd, rfl⟩⟩; (try first | exact ⟨rfl, _, World.drewN_drewN _ _ _⟩ | exact ⟨rfl, _, Eq.trans (World.drewN_drewN _ _ _) (congrArg (World.drewN _) (Nat.add_assoc _ _ _))⟩)))
                      repeat (go_quiet (first | (go_at_call 38; (with_reducible refine (backstepref02_Signs.calls  t131 _ A76.out).mono ?_); rintro e w85 ⟨v132, rfl, ho0, hb⟩; have n0_ := Aside0.mk (Kd.R_lower ho0 (below_size (by repeat (first | (with_reducible first | exact HB.out | apply below_alloc | apply pw_below_drewN | apply below_drew1) | exact HB.out)))); have n1_ := Aside0.mk (below_step (by repeat (first | (with_reducible first | exact HB.out | apply below_alloc | apply pw_below_drewN | apply below_drew1) | exact HB.out)) hb); clear HB; have HO133 := n0_; have HB := n1_; clear n0_ n1_; (try clear hb); (try clear hb2); (try clear hk); (try clear hi); (try clear ho0); obtain ⟨Ao86, co86, eo86⟩ := Kd.R_slice HO133.out; subst eo86) | (go_at_call 20; (with_reducible refine (backstepref02_In.calls k1 _ _ t131 a0 false _ ?side1 ?side2 A77.out).mono ?_); (case side1 => repeat (first | exact (Kd.R_reads' HO133.out).2.2 | (with_reducible refine Kd.C_alloc ?_ _) | (with_reducible refine Kd.C_drewN ?_ _) | (with_reducible refine Kd.C_drew ?_))); (case side2 => exact (Kd.R_reads' HO133.out).2.1); rintro e w' ⟨rfl, ⟨nd, rfl⟩⟩; (try first | exact ⟨rfl, _, World.drewN_drewN _ _ _⟩ | exact ⟨rfl, _, Eq.trans (World.drewN_drewN _ _ _) (congrArg (World.drewN _) (Nat.add_assoc _ _ _))⟩))); try go_wp2_with (first | (go_at_call 38; (with_reducible refine (backstepref02_Signs.calls  t131 _ A76.out).mono ?_); rintro e w85 ⟨v132, rfl, ho0, hb⟩; have n0_ := Aside0.mk (Kd.R_lower ho0 (below_size (by repeat (first | (with_reducible first | exact HB.out | apply below_alloc | apply pw_below_drewN | apply below_drew1) | exact HB.out)))); have n1_ := Aside0.mk (below_step (by repeat (first | (with_reducible first | exact HB.out | apply below_alloc | apply pw_below_drewN | apply below_drew1) | exact HB.out)) hb); clear HB; have HO133 := n0_; have HB := n1_; clear n0_ n1_; (try clear hb); (try clear hb2); (try clear hk); (try clear hi); (try clear ho0); obtain ⟨Ao86, co86, eo86⟩ := Kd.R_slice HO133.out; subst eo86) | (go_at_call 20; (with_reducible refine (backstepref02_In.calls k1 _ _ t131 a0 false _ ?side1 ?side2 A77.out).mono ?_); (case side1 => repeat (first | exact (Kd.R_reads' HO133.out).2.2 | (with_reducible refine Kd.C_alloc ?_ _) | (with_reducible refine Kd.C_drewN ?_ _) | (with_reducible refine Kd.C_drew ?_))); (case side2 => exact (Kd.R_reads' HO133.out).2.1); rintro e w' ⟨rfl, ⟨nd, rfl⟩⟩; (try first | exact ⟨rfl, _, World.drewN_drewN _ _ _⟩ | exact ⟨rfl, _, Eq.trans (World.drewN_drewN _ _ _) (congrArg (World.drewN _) (Nat.add_assoc _ _ _))⟩))))
                      go_ret
                      exact ⟨by first | rfl | (simp [errW_none, errW_some] <;> rfl) | (simp [*, errW_none, errW_some] <;> rfl), by repeat (first | (with_reducible first | exact HB.out | apply below_alloc | apply pw_below_drewN | apply below_drew1) | exact HB.out)⟩
                    · replace c84 := Bool.eq_false_iff.mpr c84
                      subst c84
                      have H1 : (some 0) = some r := by rw [if_neg (show ¬ (false = true) by decide)] at H; exact H
                      clear H
                      have H := H1
                      clear H1
                      obtain rfl := Option.some.inj H
                      go_wp2_with (first | (go_at_call 38; (with_reducible refine (backstepref02_Signs.calls  t131 _ A76.out).mono ?_); rintro e w87 ⟨v132, rfl, ho0, hb⟩; have n0_ := Aside0.mk (Kd.R_lower ho0 (below_size (by repeat (first | (with_reducible first | exact HB.out | apply below_alloc | apply pw_below_drewN | apply below_drew1) | exact HB.out)))); have n1_ := Aside0.mk (below_step (by repeat (first | (with_reducible first | exact HB.out | apply below_alloc | apply pw_below_drewN | apply below_drew1) | exact HB.out)) hb); clear HB; have HO133 := n0_; have HB := n1_; clear n0_ n1_; (try clear hb); (try clear hb2); (try clear hk); (try clear hi); (try clear ho0); obtain ⟨Ao88, co88, eo88⟩ := Kd.R_slice HO133.out; subst eo88) | (go_at_call 20; (with_reducible refine (backstepref02_In.calls k1 _ _ t131 a0 false _ ?side1 ?side2 A77.out).mono ?_); (case side1 => repeat (first | exact (Kd.R_reads' HO133.out).2.2 | (with_reducible refine Kd.C_alloc ?_ _) | (with_reducible refine Kd.C_drewN ?_ _) | (with_reducible refine Kd.C_drew ?_))); (case side2 => exact (Kd.R_reads' HO133.out).2.1); rintro e w' ⟨rfl, ⟨nd, rfl⟩⟩; (try first | exact ⟨rfl, _, World.drewN_drewN _ _ _⟩ | exact ⟨rfl, _, Eq.trans (World.drewN_drewN _ _ _) (congrArg (World.drewN _) (Nat.add_assoc _ _ _))⟩)))
                      repeat (go_quiet (first | (go_at_call 38; (with_reducible refine (backstepref02_Signs.calls  t131 _ A76.out).mono ?_); rintro e w87 ⟨v132, rfl, ho0, hb⟩; have n0_ := Aside0.mk (Kd.R_lower ho0 (below_size (by repeat (first | (with_reducible first | exact HB.out | apply below_alloc | apply pw_below_drewN | apply below_drew1) | exact HB.out)))); have n1_ := Aside0.mk (below_step (by repeat (first | (with_reducible first | exact HB.out | apply below_alloc | apply pw_below_drewN | apply below_drew1) | exact HB.out)) hb); clear HB; have HO133 := n0_; have HB := n1_; clear n0_ n1_; (try clear hb); (try clear hb2); (try clear hk); (try clear hi); (try clear ho0); obtain ⟨Ao88, co88, eo88⟩ := Kd.R_slice HO133.out; subst eo88) | (go_at_call 20; (with_reducible refine (backstepref02_In.calls k1 _ _ t131 a0 false _ ?side1 ?side2 A77.out).mono ?_); (case side1 => repeat (first | exact (Kd.R_reads' HO133.out).2.2 | (with_reducible refine Kd.C_alloc ?_ _) | (with_reducible refine Kd.C_drewN ?_ _) | (with_reducible refine Kd.C_drew ?_))); (case side2 => exact (Kd.R_reads' HO133.out).2.1); rintro e w' ⟨rfl, ⟨nd, rfl⟩⟩; (try first | exact ⟨rfl, _, World.drewN_drewN _ _ _⟩ | exact ⟨rfl, _, Eq.trans (World.drewN_drewN _ _ _) (congrArg (World.drewN _) (Nat.add_assoc _ _ _))⟩))); try go_wp2_with (first | (go_at_call 38; (with_reducible refine (backstepref02_Signs.calls  t131 _ A76.out).mono ?_); rintro e w87 ⟨v132, rfl, ho0, hb⟩; have n0_ := Aside0.mk (Kd.R_lower ho0 (below_size (by repeat (first | (with_reducible first | exact HB.out | apply below_alloc | apply pw_below_drewN | apply below_drew1) | exact HB.out)))); have n1_ := Aside0.mk (below_step (by repeat (first | (with_reducible first | exact HB.out | apply below_alloc | apply pw_below_drewN | apply below_drew1) | exact HB.out)) hb); clear HB; have HO133 := n0_; have HB := n1_; clear n0_ n1_; (try clear hb); (try clear hb2); (try clear hk); (try clear hi); (try clear ho0); obtain ⟨Ao88, co88, eo88⟩ := Kd.R_slice HO133.out; subst eo88) | (go_at_call 20; (with_reducible refine (backstepref02_In.calls k1 _ _ t131 a0 false _ ?side1 ?side2 A77.out).mono ?_); (case side1 => repeat (first | exact (Kd.R_reads' HO133.out).2.2 | (with_reducible refine Kd.C_alloc ?_ _) | (with_reducible refine Kd.C_drewN ?_ _) | (with_reducible refine Kd.C_drew ?_))); (case side2 => exact (Kd.R_reads' HO133.out).2.1); rintro e w' ⟨rfl, ⟨nd, rfl⟩⟩; (try first | exact ⟨rfl, _, World.drewN_drewN _ _ _⟩ | exact ⟨rfl, _, Eq.trans (World.drewN_drewN _ _ _) (congrArg (World.drewN _) (Nat.add_assoc _ _ _))⟩))))
                      go_ret
                      exact ⟨by first | rfl | (simp [errW_none, errW_some] <;> rfl) | (simp [*, errW_none, errW_some] <;> rfl), by repeat (first | (with_reducible first | exact HB.out | apply below_alloc | apply pw_below_drewN | apply below_drew1) | exact HB.out)⟩
    · rw [if_neg c3] at H
      exact absurd H (by simp)

end Go.Proofs.YtapkfblkghoknaaDoor.PX
