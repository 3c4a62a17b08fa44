/-
  The law TapeFull, walked.
-/
import Derived.Test.YtadmmpfjdnfefaaApp
namespace Go.Proofs.Ytadmmpfjdnfefaa
open Go.RowKit

theorem row_zeros {w : World} {v : Value} {n : Nat} (h : w.ownsRow 0 3 1 v n (madeCells #[Value.int .i64 0] n).toList) : Row w v (List.replicate n 0) := by
  have e : (madeCells #[Value.int .i64 0] n).toList = (List.replicate n (0 : Int)).map (Value.int .i64) := by
    rw [List.map_replicate]
    exact toList_madeCells_one _ _
  rw [e] at h
  exact (Row.of_owns h).1

theorem fullE_lt {I : List Int} (h : I.length < 4096) : fullE I = 0 := fullE_eq.2 h
theorem fullE_ge {I : List Int} (h : 4096 ≤ I.length) : fullE I = 5 := by unfold fullE; rw [if_pos h]
theorem pushF_lt {I : List Int} (n : Int) (h : I.length < 4096) : (pushF I n).length = I.length + 1 := by unfold pushF; rw [if_neg (by omega)]; rfl
theorem pushB_lt {I : List Int} (n : Int) (h : I.length < 4096) : (pushB I n).length = I.length + 1 := by unfold pushB; rw [if_neg (by omega)]; simp
theorem pushF_ge {I : List Int} (n : Int) (h : 4096 ≤ I.length) : pushF I n = I := by unfold pushF; rw [if_pos h]
theorem pushB_ge {I : List Int} (n : Int) (h : 4096 ≤ I.length) : pushB I n = I := by unfold pushB; rw [if_pos h]

theorem in_live (w0 w : World) (p : Nat) (I O : List Int) (h : Live w0 w p I O) :
    Calls Try.prog 14 #[.pointer (some ⟨p, 0, none⟩)] w fun e w' => ∃ A c, e = .returned (.slice A I.length c) ∧ Live w0 w' p I O := by
  obtain ⟨F, h1⟩ := h.foot
  refine (in_any w p _ I O h1).mono ?_
  rintro e w' ⟨v, rfl, hf⟩
  obtain ⟨A, c, rfl⟩ := hf.1.shape
  exact ⟨A, c, rfl, h.kept hf.2.2⟩
theorem out_live (w0 w : World) (p : Nat) (I O : List Int) (h : Live w0 w p I O) :
    Calls Try.prog 19 #[.pointer (some ⟨p, 0, none⟩)] w fun e w' => ∃ A c, e = .returned (.slice A O.length c) ∧ Live w0 w' p I O := by
  obtain ⟨F, h1⟩ := h.foot
  refine (out_any w p _ I O h1).mono ?_
  rintro e w' ⟨v, rfl, hf⟩
  obtain ⟨A, c, rfl⟩ := hf.1.shape
  exact ⟨A, c, rfl, h.kept hf.2.2⟩

set_option maxHeartbeats 1000000 in
theorem full_walk (w : World) (q n : Int) (h0 : 0 ≤ q) (h1 : q ≤ 255) :
    Calls Try.prog 9 #[.int .u8 q, .int .i64 n] w fun e w' => e = .returned (.bool true) ∧ KB w w' := by
  obtain ⟨k, hk, hk1, hk2⟩ : ∃ k : Nat, q.tmod 21 = (k : Int) ∧ k ≤ 20 ∧ q % 21 = (k : Int) := ⟨(q % 21).toNat, by rw [Int.tmod_eq_emod_of_nonneg h0]; omega, by omega, by omega⟩
  obtain ⟨i0, hi, hz0, hz1, hz2⟩ := info_parts Try.info3
  have hib : Hid (i0.bytes * (4096 - k) ≤ 281474976710656) := by show _ ≤ _; rw [hz2]; omega
  go_enter Try.func9, Try.ntmps9
  go_wp2_with fail
  refine (awake_any _).mono ?_
  rintro e w1 ⟨rfl, hk1'⟩
  have K1 := Lib.hid ((KB.refl w).fresh hk1'); clear hk1'
  clear hk
  have hz2' := Lib.hid hz2; clear hz2
  have e1 : Hid ((4096 : Int) - (k : Int) = ((4096 - k : Nat) : Int)) := by show _ = _; omega
  go_wp2_with (at_make; refine wpList_make_full _ rfl (.tmp 15) (.tmp 15) 22 rfl 0 3 i0 (.int .i64 0) 1 Try.underlying22 hi hz0 hz1 .i64 .i64 _ _ (4096 - k) rfl rfl e1.out e1.out hib.out ?hm (Nat.zero_le _) ?_)
  case hm => unfold maxLen; omega
  intro w2 hown hg
  have R2 := Lib.hid (row_zeros hown)
  have K2 := Lib.hid (K1.out.trans (S := fun _ => False) ⟨hg.os, hg.tape, hg.output, hg.size, fun i hi _ => hg.block i hi (by simp)⟩ (fun _ _ h => h))
  clear hown hg
  obtain ⟨m, hm⟩ : ∃ m, m = 4096 - k := ⟨_, rfl⟩
  have HM : Hid (m + k = 4096) := by show _ = _; omega
  rw [← hm] at R2
  rw [← hm]
  clear hm e1 hib
  go_wp2_with fail
  have hre : Reads w2 (.slice (some ⟨w1.heap.size, 0, none⟩) m m) (List.replicate m 0) := R2.out.reads
  have HRE := Lib.hid hre; clear hre
  refine (new_ok _ _ _ (List.replicate m 0) (List.replicate m 0) HRE.out HRE.out (by simp; have := HM.out; omega) (by simp; have := HM.out; omega)).mono ?_
  rintro e w3 ⟨p, rfl, hmade⟩
  have hl := Lib.hid (Live.of_made hmade (Keeps.refl _ w2)); clear hmade
  have hkq : Hid (q % 21 = (k : Int)) := hk2
  clear hk2
  go_wp2
  go_loopw [26] (fun s wr => ∃ j : Nat, j ≤ k ∧ s = .int .i64 j ∧ ∃ I O, Hid (I.length = m + j ∧ O.length = m + j) ∧ Hid (Live w2 wr p I O)) (fun s _ => k - (intOf s).toNat)
  case atStart => exact ⟨0, Nat.zero_le _, rfl, _, _, ⟨by simp, by simp⟩, hl.out⟩
  case round =>
    obtain ⟨j, hj, rfl, I, O, hlen, hlive⟩ := hrel
    by_cases hlt : j < k
    · have hjk : (j : Int) < (k : Int) := by omega
      have g1 : Hid (I.length < 4096) := by have := hlen.out.1; have := HM.out; show _ < _; omega
      have g2 : Hid (O.length < 4096) := by have := hlen.out.2; have := HM.out; show _ < _; omega
      go_wp2_with fail
      refine (unread_live w2 _ p I O n hlive.out).mono ?_
      rintro e w4 ⟨rfl, h4⟩
      rw [fullE_lt g1.out]
      have L4 := Lib.hid h4; clear h4
      go_wp2_with fail
      refine (write_live w2 _ p (pushF I n) O n L4.out).mono ?_
      rintro e w5 ⟨rfl, h5⟩
      rw [fullE_lt g2.out]
      have L5 := Lib.hid h5; clear h5
      go_wp2
      go_roundw
      case rel => exact ⟨j + 1, by omega, by go_num, _, _, ⟨by rw [pushF_lt n g1.out, hlen.out.1]; omega, by rw [pushB_lt n g2.out, hlen.out.2]; omega⟩, L5.out⟩
      case measure => simp [intOf]; omega
    · have hjk : ¬ (j : Int) < (k : Int) := by omega
      have g1 : Hid (4096 ≤ I.length) := by have := hlen.out.1; have := HM.out; show _ ≤ _; omega
      have g2 : Hid (4096 ≤ O.length) := by have := hlen.out.2; have := HM.out; show _ ≤ _; omega
      have e1 : Hid (I.length = 4096) := by have := hlen.out.1; have := HM.out; show _ = _; omega
      have e2 : Hid (O.length = 4096) := by have := hlen.out.2; have := HM.out; show _ = _; omega
      clear hlt hj
      obtain ⟨w4, rfl⟩ : ∃ w4 : World, w4 = wr := ⟨_, rfl⟩
      go_wp2_with fail
      refine (unread_live w2 _ p I O n hlive.out).mono ?_
      rintro e w5 ⟨rfl, h5⟩
      rw [fullE_ge g1.out]
      rw [pushF_ge n g1.out] at h5
      have L5 := Lib.hid h5; clear h5
      go_wp2_with fail
      refine (write_live w2 _ p I O n L5.out).mono ?_
      rintro e w6 ⟨rfl, h6⟩
      rw [fullE_ge g2.out]
      rw [pushB_ge n g2.out] at h6
      have L6 := Lib.hid h6; clear h6
      go_wp2_with fail
      refine (in_live w2 _ p I O L6.out).mono ?_
      rintro e w7 ⟨A7, c7, rfl, h7⟩
      rw [e1.out]
      have L7 := Lib.hid h7; clear h7
      go_wp2_with fail
      refine (out_live w2 _ p I O L7.out).mono ?_
      rintro e w8 ⟨A8, c8, rfl, h8⟩
      rw [e2.out]
      have L8 := Lib.hid h8; clear h8
      go_wp2
      go_ret
      exact ⟨rfl, K2.out.fresh L8.out.keeps⟩

end Go.Proofs.Ytadmmpfjdnfefaa
