/-
  The contract of Name.
-/
import Derived.Test.YtapkfblkghoknaaDoorPX20
namespace Go.Proofs.YtapkfblkghoknaaDoor.PX
open Go.RowKit Go.Proofs.YtapkfblkghoknaaDoorW.PrintWords Go.Proofs.YtapkfblkghoknaaDoorW.PrintLast Go.Proofs.YtapkfblkghoknaaDoorW.PrintMore

def nameB (l : Bs) : Bool := decide (l.length ≠ 0) && decide (l.length ≤ 16) && !decide (l ∈ kwL) && decide ((nextL l).1 = 1) && decide ((nextL l).2 = l.length)

set_option maxHeartbeats 2000000 in
set_option maxRecDepth 100000 in
theorem name_any (a : ByteArray) (w : World) (ht : Tab w) : Calls Tryd.prog 17 #[.string a] w fun e w' => e = .returned (.bool (nameB a.data.toList)) ∧ Below w.heap.size w w' := by
  have hsz : a.data.toList.length = a.size := by simp
  by_cases h0 : a.size = 0
  · have hb : nameB a.data.toList = false := by unfold nameB; rw [hsz, h0]; rfl
    rw [hb]
    have c0 : ((a.size : Int) == 0) = true := by rw [beq_iff_eq]; omega
    clear hb hsz ht
    go_enter Tryd.func17, Tryd.ntmps17
    go_wp2
    go_ret
    exact ⟨rfl, Below.refl _ _⟩
  have c0 : ((a.size : Int) == 0) = false := by rw [beq_eq_false_iff_ne]; omega
  by_cases h16 : 16 < a.size
  · have hb : nameB a.data.toList = false := by unfold nameB; rw [hsz, decide_eq_false (show ¬ a.size ≤ 16 by omega)]; simp
    rw [hb]
    have c1 : decide ((16 : Int) < (a.size : Int)) = true := decide_eq_true (by omega)
    clear hb hsz ht h0 h16
    go_enter Tryd.func17, Tryd.ntmps17
    go_wp2
    go_ret
    exact ⟨rfl, Below.refl _ _⟩
  have c1 : decide ((16 : Int) < (a.size : Int)) = false := decide_eq_false (by omega)
  have hk := keyword_any a w ht (by omega)
  have hp : 0 < a.size := by omega
  have hs16 : a.size ≤ 16 := by omega
  have HP := Aside0.mk hp
  have H16 := Aside0.mk hs16
  have HSZ := Aside0.mk hsz
  have HT := Aside0.mk ht
  clear h0 h16 hp hs16 hsz ht
  by_cases hkw : a.data.toList ∈ kwL
  · have hb : nameB a.data.toList = false := by unfold nameB; rw [decide_eq_true hkw]; simp
    rw [hb]
    rw [decide_eq_true hkw] at hk
    have HK := Aside0.mk hk
    clear hb hkw hk
    go_enter Tryd.func17, Tryd.ntmps17
    go_wp2_with (fail)
    refine HK.out.mono ?_
    rintro e w1 ⟨rfl, hb⟩
    have HB := Aside0.mk hb; clear hb
    go_wp2
    go_ret
    exact ⟨rfl, HB.out⟩
  · rw [decide_eq_false hkw] at hk
    have HK := Aside0.mk hk
    have hb : Aside0 (nameB a.data.toList = (decide ((nextL a.data.toList).1 = 1) && decide ((nextL a.data.toList).2 = a.size))) := ⟨by
      unfold nameB; rw [HSZ.out, decide_eq_false hkw, decide_eq_true (show a.size ≠ 0 by have := HP.out; omega), decide_eq_true H16.out]; rfl⟩
    clear hkw hk
    obtain ⟨q, hq⟩ : ∃ q, q = nextL a.data.toList := ⟨_, rfl⟩
    have HQ := Aside0.mk hq; clear hq
    go_enter Tryd.func17, Tryd.ntmps17
    go_wp2_with (fail)
    refine HK.out.mono ?_
    rintro e w1 ⟨rfl, hb1⟩
    have HB := Aside0.mk hb1; clear hb1
    go_wp2_with (fail)
    refine (next_any a w1 (Tab.below HT.out HB.out) HP.out (by have := H16.out; omega)).mono ?_
    rintro e w2 ⟨rfl, hb2⟩
    have HB2 := Aside0.mk (HB.out.trans (hb2.mono HB.out.size)); clear hb2
    rw [← HQ.out]
    by_cases e1 : q.1 = 1
    · have d1 : ((q.1 : Int) == 1) = true := by rw [beq_iff_eq]; omega
      by_cases e2 : q.2 = a.size
      · have d2 : ((q.2 : Int) == (a.size : Int)) = true := by rw [beq_iff_eq]; omega
        have hb2 : nameB a.data.toList = true := by rw [hb.out, ← HQ.out, decide_eq_true e1, decide_eq_true e2]; rfl
        have HN := Aside0.mk hb2
        clear e1 e2 hb2
        go_wp2
        go_ret
        exact ⟨by rw [HN.out]; rfl, HB2.out⟩
      · have d2 : ((q.2 : Int) == (a.size : Int)) = false := by rw [beq_eq_false_iff_ne]; omega
        have hb2 : nameB a.data.toList = false := by rw [hb.out, ← HQ.out, decide_eq_false e2, Bool.and_false]
        have HN := Aside0.mk hb2
        clear e1 e2 hb2
        go_wp2
        go_ret
        exact ⟨by rw [HN.out]; rfl, HB2.out⟩
    · have d1 : ((q.1 : Int) == 1) = false := by rw [beq_eq_false_iff_ne]; omega
      have hb2 : nameB a.data.toList = false := by rw [hb.out, ← HQ.out, decide_eq_false e1, Bool.false_and]
      have HN := Aside0.mk hb2
      clear e1 hb2
      go_wp2
      go_ret
      exact ⟨by rw [HN.out]; rfl, HB2.out⟩

def lexer_Name.f (a0 : ByteArray) : Option Bool := some (nameB a0.data.toList)
theorem lexer_Name.calls (a0 : ByteArray) (r : Bool) (w : World) (htab : Tab w) (h : lexer_Name.f a0 = some r) :
    Calls Tryd.prog 17 #[.string a0] w fun e w' => e = .returned (.bool r) ∧ Below w.heap.size w w' := by
  obtain rfl := Option.some.inj h
  exact name_any a0 w htab

end Go.Proofs.YtapkfblkghoknaaDoor.PX
