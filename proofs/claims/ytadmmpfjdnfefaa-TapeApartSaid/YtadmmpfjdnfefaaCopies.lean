/-
  The law TapeCopies, walked.
-/
import Derived.Test.YtadmmpfjdnfefaaFull
namespace Go.Proofs.Ytadmmpfjdnfefaa
open Go.RowKit

theorem size_le_alloc (w : World) (o : Obj) : w.heap.size ≤ (w.alloc o).heap.size := by simp
theorem drop_first {I : List Int} {j : Nat} (h : j < I.length) : I.drop j = I.getD j 0 :: I.drop (j + 1) := by
  rw [List.drop_eq_getElem_cons h]
  simp [List.getD, List.getElem?_eq_getElem h]
theorem take_last {I : List Int} {j : Nat} (h : j < I.length) : I.take (j + 1) = I.take j ++ [I.getD j 0] := by
  rw [List.take_succ_eq_append_getElem h]
  simp [List.getD, List.getElem?_eq_getElem h]

theorem read_step {I : List Int} {j : Nat} (h : j < I.length) : firstN (I.drop j) = I.getD j 0 ∧ emptyE (I.drop j) = 0 ∧ (I.drop j).tail = I.drop (j + 1) := by
  rw [drop_first h]
  exact ⟨rfl, rfl, rfl⟩
theorem write_step {I O : List Int} {j : Nat} (h : j < I.length) (hb : O.length + j < 4096) : fullE (O ++ I.take j) = 0 ∧ pushB (O ++ I.take j) (I.getD j 0) = O ++ I.take (j + 1) := by
  have hl : (O ++ I.take j).length = O.length + j := by simp; omega
  refine ⟨fullE_lt (by omega), ?_⟩
  unfold pushB
  rw [if_neg (by omega), take_last h, List.append_assoc]
theorem unwrite_step {I O : List Int} {j : Nat} (h : j < I.length) : lastN (O ++ I.take (j + 1)) = I.getD j 0 ∧ emptyE (O ++ I.take (j + 1)) = 0 ∧ (O ++ I.take (j + 1)).dropLast = O ++ I.take j := by
  rw [take_last h, ← List.append_assoc]
  refine ⟨by unfold lastN; simp, emptyE_ne.2 (by simp), by simp⟩
theorem unread_step {I : List Int} {j : Nat} (h : j < I.length) (hb : I.length < 4096) : fullE (I.drop (j + 1)) = 0 ∧ pushF (I.drop (j + 1)) (I.getD j 0) = I.drop j := by
  have hl : (I.drop (j + 1)).length = I.length - (j + 1) := by simp
  refine ⟨fullE_lt (by omega), ?_⟩
  unfold pushF
  rw [if_neg (by omega), drop_first h]

set_option maxHeartbeats 2000000 in
theorem copies_walk (w : World) (a b : Value) (I O : List Int) (ha : Reads w a I) (hb : Reads w b O) (ya : I.length * 8 ≤ 140737488351232) (yb : O.length * 8 ≤ 140737488351232) :
    Calls Try.prog 8 #[a, b] w fun e w' => e = .returned (.bool true) ∧ KB w w' := by
  have HA := Lib.hid ha
  have HB := Lib.hid hb
  obtain ⟨A, ca, rfl⟩ := ha.form
  obtain ⟨B, cb, rfl⟩ := hb.form
  clear ha hb
  by_cases hbig : 2000 < I.length + O.length
  · have hbig' : (2000 : Int) < (I.length : Int) + (O.length : Int) := by omega
    clear hbig
    go_enter Try.func8, Try.ntmps8
    go_wp2_with fail
    refine (awake_any _).mono ?_
    rintro e w1 ⟨rfl, hk1⟩
    have K1 := Lib.hid ((KB.refl w).fresh hk1); clear hk1
    go_wp2
    go_ret
    exact ⟨rfl, K1.out⟩
  have hsm : decide ((2000 : Int) < (I.length : Int) + (O.length : Int)) = false := by rw [decide_eq_false_iff_not]; omega
  have HS : Hid (I.length + O.length ≤ 2000) := by show _ ≤ _; omega
  clear hbig
  go_enter Try.func8, Try.ntmps8
  go_wp2_with fail
  refine (awake_any _).mono ?_
  rintro e w1 ⟨rfl, hk1⟩
  have K1 := Lib.hid ((KB.refl w).fresh hk1); clear hk1
  go_wp2_with fail
  refine (new_ok _ _ _ I O (K1.out.reads HA.out) (K1.out.reads HB.out) (by have := HS.out; omega) (by have := HS.out; omega)).mono ?_
  rintro e w2 ⟨p, rfl, hm⟩
  have hl := Lib.hid (Live.of_made hm (Keeps.refl _ w1)); clear hm
  go_wp2
  go_loopw [29] (fun s wr => ∃ j : Nat, j ≤ I.length ∧ s = .int .i64 j ∧ Hid (Live w1 wr p (I.drop j) (O ++ I.take j))) (fun s _ => I.length - (intOf s).toNat)
  case atStart => exact ⟨0, Nat.zero_le _, rfl, (show Live w1 w2 p (I.drop 0) (O ++ I.take 0) by simpa using hl.out)⟩
  case round =>
    obtain ⟨j, hj, rfl, hlive⟩ := hrel
    by_cases hlt : j < I.length
    · have hjk : (j : Int) < (I.length : Int) := by omega
      go_wp2_with fail
      refine (read_live w1 _ p (I.drop j) (O ++ I.take j) hlive.out).mono ?_
      rintro e w3 ⟨rfl, h3⟩
      rw [(read_step hlt).1, (read_step hlt).2.1]
      rw [(read_step hlt).2.2] at h3
      have L3 := Lib.hid h3; clear h3
      obtain ⟨z, hz⟩ : ∃ z, z = I.getD j 0 := ⟨_, rfl⟩
      rw [← hz]
      have HZ := Lib.hid hz; clear hz
      go_wp2_with fail
      refine (write_live w1 _ p (I.drop (j + 1)) (O ++ I.take j) z L3.out).mono ?_
      rintro e w4 ⟨rfl, h4⟩
      have hst := write_step (O := O) hlt (by have := HS.out; omega)
      rw [hst.1]
      rw [HZ.out, hst.2] at h4
      have L4 := Lib.hid h4; clear h4 hst
      go_wp2
      go_roundw
      case rel => exact ⟨j + 1, by omega, by go_num, L4.out⟩
      case measure => simp [intOf]; omega
    · have hjk : ¬ (j : Int) < (I.length : Int) := by omega
      have e1 : I.drop j = [] := List.drop_of_length_le (by omega)
      have e2 : I.take j = I := List.take_of_length_le (by omega)
      rw [e1, e2] at hlive
      clear e1 e2 hlt hj
      obtain ⟨w5, rfl⟩ : ∃ w5 : World, w5 = wr := ⟨_, rfl⟩
      have K5 := Lib.hid (K1.out.fresh hlive.out.keeps)
      have kA : Hid (KB w (w5.alloc (.cells #[] 3))) := K5.out.fresh ((Keeps.refl _ _).alloc _)
      go_wp2_with (at_builtin; refine wpList_append_reads rfl (.tmp 46) (.tmp 47) rfl w5.heap.size _ _ [] O rfl rfl (row_empty w5) own_ge (size_le_alloc _ _) (kA.out.reads HB.out) ?h2 ?_)
      case h2 => have := HS.out; simp; omega
      intro v6 w6 hr6 hb6 hk6
      have k56 : Hid (Keeps (fun _ => False) w5 w6) := ((Keeps.refl (fun _ => False) w5).alloc _).trans hk6 (fun i hi hs => by have := own_ge i hs; simp at this; omega)
      have R6 := Lib.hid hr6; clear hr6
      have B6 := Lib.hid hb6; clear hb6 hk6 kA
      have K6 := Lib.hid (K5.out.fresh k56.out)
      have s56 := Lib.hid k56.out.size
      go_wp2_with (at_builtin; refine wpList_append_reads rfl (.tmp 48) (.tmp 49) rfl w5.heap.size _ _ O I rfl rfl R6.out B6.out s56.out (K6.out.reads HA.out) ?h3 ?_)
      case h3 => have := HS.out; omega
      intro v7 w7 hr7 hb7 hk7
      have k57 : Hid (Keeps (fun _ => False) w5 w7) := k56.out.trans hk7 (fun i hi hs => by have := B6.out i hs; omega)
      have R7 := Lib.hid hr7; clear hr7 hb7 hk7
      have L7 := Lib.hid (hlive.out.kept k57.out)
      clear hlive
      go_wp2_with fail
      obtain ⟨F, hT⟩ := L7.out.foot
      refine (same_any _ p F [] (O ++ I) hT _ _ [] (O ++ I) (reads_nil _) R7.out.reads).mono ?_
      rintro e w8 ⟨rfl, hk8⟩
      rw [sameB_self]
      have L8 := Lib.hid (L7.out.kept hk8); clear hk8 hT L7
      go_wp2
      go_loopw [55] (fun s wr => ∃ j : Nat, j ≤ I.length ∧ s = .int .i64 j ∧ Hid (Live w1 wr p (I.drop (I.length - j)) (O ++ I.take (I.length - j)))) (fun s _ => I.length - (intOf s).toNat)
      case atStart => exact ⟨0, Nat.zero_le _, rfl, (show Live w1 _ p (I.drop (I.length - 0)) (O ++ I.take (I.length - 0)) by simpa using L8.out)⟩
      case round =>
        obtain ⟨m, hm, rfl, hlive⟩ := hrel
        by_cases hlt : m < I.length
        · have hjk : (m : Int) < (I.length : Int) := by omega
          obtain ⟨i, hi⟩ : ∃ i, i = I.length - (m + 1) := ⟨_, rfl⟩
          have hii : I.length - m = i + 1 := by omega
          have hil : Hid (i < I.length) := by show _ < _; omega
          rw [hii] at hlive
          have HI := Lib.hid hi; clear hi hii
          go_wp2_with fail
          refine (unwrite_live w1 _ p (I.drop (i + 1)) (O ++ I.take (i + 1)) hlive.out).mono ?_
          rintro e w9 ⟨rfl, h9⟩
          have hst := unwrite_step (O := O) hil.out
          rw [hst.1, hst.2.1]
          rw [hst.2.2] at h9
          have L9 := Lib.hid h9; clear h9 hst
          obtain ⟨z, hz⟩ : ∃ z, z = I.getD i 0 := ⟨_, rfl⟩
          rw [← hz]
          have HZ := Lib.hid hz; clear hz
          go_wp2_with fail
          refine (unread_live w1 _ p (I.drop (i + 1)) (O ++ I.take i) z L9.out).mono ?_
          rintro e w10 ⟨rfl, h10⟩
          have hst := unread_step hil.out (by have := HS.out; omega)
          rw [hst.1]
          rw [HZ.out, hst.2] at h10
          have L10 := Lib.hid h10; clear h10 hst
          go_wp2
          go_roundw
          case rel => exact ⟨m + 1, by omega, by go_num, by rw [← HI.out]; exact L10.out⟩
          case measure => simp [intOf]; omega
        · have hjk2 : ¬ (m : Int) < (I.length : Int) := by omega
          have e1 : I.drop (I.length - m) = I := by rw [show I.length - m = 0 by omega]; rfl
          have e2 : I.take (I.length - m) = [] := by rw [show I.length - m = 0 by omega]; rfl
          rw [e1, e2, List.append_nil] at hlive
          clear e1 e2 hlt hm
          go_wp2_with fail
          refine (same_live w1 _ p I O _ _ I O hlive.out (K1.out.reads HA.out) (K1.out.reads HB.out)).mono ?_
          rintro e w9 ⟨rfl, hk9⟩
          rw [sameB_self]
          have K9 := Lib.hid (K1.out.fresh hk9); clear hk9
          go_wp2
          go_ret
          exact ⟨rfl, K9.out⟩

end Go.Proofs.Ytadmmpfjdnfefaa
