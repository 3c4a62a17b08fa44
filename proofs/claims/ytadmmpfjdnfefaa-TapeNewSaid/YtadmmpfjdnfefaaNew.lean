/-
  The law TapeNew, walked.
-/
import Derived.Test.YtadmmpfjdnfefaaApp
namespace Go.Proofs.Ytadmmpfjdnfefaa
open Go.RowKit

set_option maxHeartbeats 2000000 in
theorem new_walk (w : World) (a b : Value) (I O : List Int) (ha : Reads w a I) (hb : Reads w b O) :
    Calls Try.prog 3 #[a, b] w fun e w' => e = .returned (.bool true) ∧ KB w w' := by
  have HA := Lib.hid ha
  have HB := Lib.hid hb
  obtain ⟨A, ca, rfl⟩ := ha.form
  obtain ⟨B, cb, rfl⟩ := hb.form
  clear ha hb
  go_enter Try.func3, Try.ntmps3
  go_wp2_with fail
  refine (awake_any _).mono ?_
  rintro e w1 ⟨rfl, hk1⟩
  have K1 := Lib.hid ((KB.refl w).fresh hk1); clear hk1
  go_wp2_with fail
  refine (great_int _ _ _ _ I.length O.length 0 HA.out.form HB.out.form ⟨_, _, rfl⟩).mono ?_
  rintro e wx ⟨rfl, rfl⟩
  cases hbig : bigB I.length O.length 0 with
  | true =>
    go_wp2
    go_ret
    exact ⟨rfl, K1.out⟩
  | false =>
    have hlen : Hid (I.length ≤ 5000 ∧ O.length ≤ 5000) := by
      unfold bigB at hbig
      rw [Bool.or_eq_false_iff, Bool.or_eq_false_iff, decide_eq_false_iff_not, decide_eq_false_iff_not] at hbig
      show _ ∧ _
      omega
    clear hbig
    have kA : Hid (KB w (w1.alloc (.cells #[] 3))) := K1.out.fresh ((Keeps.refl _ _).alloc _)
    go_wp2_with (at_builtin; refine wpList_append_reads rfl (.tmp 18) (.tmp 19) rfl w1.heap.size _ _ [] I rfl rfl (row_empty w1) own_ge ?h2 (kA.out.reads HA.out) ?h4 ?_)
    case h2 => simp
    case h4 => have := hlen.out; simp; omega
    intro va w2 hra hba hka
    have RA := Lib.hid hra; clear hra
    have BA := Lib.hid hba; clear hba
    have K2 := Lib.hid (kA.out.trans hka (fun i hi hs => by have := K1.out.size; have := own_ge i hs; simp at this; omega)); clear hka kA
    have kB : Hid (KB w (w2.alloc (.cells #[] 3))) := K2.out.fresh ((Keeps.refl _ _).alloc _)
    go_wp2_with (at_builtin; refine wpList_append_reads rfl (.tmp 21) (.tmp 22) rfl w2.heap.size _ _ [] O rfl rfl (row_empty w2) own_ge ?h3 (kB.out.reads HB.out) ?h5 ?_)
    case h3 => simp
    case h5 => have := hlen.out; simp; omega
    intro vb w3 hrb hbb hkb
    have RB := Lib.hid hrb; clear hrb
    have BB := Lib.hid hbb; clear hbb
    have k23 : Hid (Keeps (fun _ => False) w2 w3) := ((Keeps.refl (fun _ => False) w2).alloc _).trans hkb (fun i hi hs => by have := own_ge i hs; simp at this; omega)
    clear hkb kB
    have K3 := Lib.hid (K2.out.fresh k23.out)
    have RA3 := Lib.hid (RA.out.kept k23.out (fun _ _ h => h))
    have RA2 := Lib.hid (RA.out.lt)
    clear RA
    go_wp2_with fail
    by_cases hfull : 4096 < I.length ∨ 4096 < O.length
    · refine (new_fails _ _ _ I O RA3.out.reads RB.out.reads hfull).mono ?_
      rintro e wx ⟨rfl, rfl⟩
      by_cases h1 : 4096 < I.length
      · have h1' : (4096 : Int) < (I.length : Int) := by omega
        clear h1 hfull
        go_wp2
        go_ret
        exact ⟨rfl, K3.out⟩
      · have h1' : decide ((4096 : Int) < (I.length : Int)) = false := by rw [decide_eq_false_iff_not]; omega
        have h2' : (4096 : Int) < (O.length : Int) := by omega
        clear h1 hfull
        go_wp2
        go_ret
        exact ⟨rfl, K3.out⟩
    · have h1' : decide ((4096 : Int) < (I.length : Int)) = false := by rw [decide_eq_false_iff_not]; omega
      have h2' : decide ((4096 : Int) < (O.length : Int)) = false := by rw [decide_eq_false_iff_not]; omega
      refine (new_ok _ _ _ I O RA3.out.reads RB.out.reads (by omega) (by omega)).mono ?_
      rintro e w4 ⟨p, rfl, hm⟩
      clear hfull
      obtain ⟨F, hT, hF, hk4⟩ := hm
      have HF := Lib.hid hF; clear hF
      have T4 := Lib.hid hT; clear hT
      have K4 := Lib.hid (K3.out.fresh hk4)
      have A4 := Lib.hid (RA3.out.kept hk4 (fun _ _ h => h))
      have B4 := Lib.hid (RB.out.kept hk4 (fun _ _ h => h))
      have s23 : Hid (w2.heap.size ≤ w3.heap.size) := k23.out.size
      have s4 : Hid (w3.heap.size ≤ w4.heap.size) := hk4.size
      have la := Lib.hid (RA3.out.lt)
      have ba2 : Hid (∀ k, va.ownBlock = some k → k < w2.heap.size) := RA2.out
      have lb := Lib.hid (RB.out.lt)
      clear hk4 RA3 RB
      obtain ⟨Aa, na, rfl⟩ := A4.out.shape
      obtain ⟨Ab, nb, rfl⟩ := B4.out.shape
      have hI : (I.length : Int) ≤ 5000 := by have := hlen.out; omega
      have hO : (O.length : Int) ≤ 5000 := by have := hlen.out; omega
      go_wp2
      go_loopw [52] (fun k wr => ∃ m : Nat, m ≤ I.length ∧ k = .int .i64 m ∧ ∃ zs, Hid (zs.length = I.length) ∧ Hid (Row wr (.slice Aa I.length na) zs) ∧ Hid (Keeps (fun i => (Value.slice Aa I.length na).ownBlock = some i) w4 wr)) (fun k _ => I.length - (intOf k).toNat)
      case atStart => exact ⟨0, Nat.zero_le _, rfl, I, rfl, A4.out, Keeps.refl _ _⟩
      case round =>
        obtain ⟨m, hm, rfl, zs, hz, hrow, hkeep⟩ := hrel
        by_cases hlt : m < I.length
        · obtain ⟨g, rfl⟩ := hrow.out.head (by omega)
          obtain ⟨c1, c2, _⟩ := hrow.out.cell m hlt
          obtain ⟨z, hzz⟩ : ∃ z, z = zs.getD m 0 := ⟨_, rfl⟩
          rw [← hzz] at c1
          clear hzz
          have hi : (m : Int) < (I.length : Int) := by omega
          go_wp2
          go_roundw
          case rel => exact ⟨m + 1, by omega, by go_num, zs.set m _, (by show _ = _; rw [List.length_set]; exact hz.out), hrow.out.store hlt _, hkeep.out.setCell _ _ (fun _ => rfl)⟩
          case measure => simp [intOf]; omega
        · have hge : ¬ (m : Int) < (I.length : Int) := by omega
          clear hlt hm hrow
          obtain ⟨w5, rfl⟩ : ∃ w5 : World, w5 = wr := ⟨_, rfl⟩
          have hFa : Hid (∀ k, F k → ¬ (Value.slice Aa I.length na).ownBlock = some k) := fun k hk e => by have := HF.out k hk; have := la.out k e; omega
          have K5 := Lib.hid (K4.out.trans hkeep.out (fun i hi hs => by have := BA.out i hs; have := K1.out.size; omega))
          have T5 := Lib.hid (T4.out.kept hkeep.out hFa.out)
          have B5 := Lib.hid (B4.out.kept hkeep.out (fun k hk e => by have := BB.out k hk; have := ba2.out k e; omega))
          have s5 : Hid (w4.heap.size ≤ w5.heap.size) := hkeep.out.size
          clear hkeep T4 K4 B4 hFa
          go_wp2
          go_loopw [64] (fun k wr => ∃ m : Nat, m ≤ O.length ∧ k = .int .i64 m ∧ ∃ zs, Hid (zs.length = O.length) ∧ Hid (Row wr (.slice Ab O.length nb) zs) ∧ Hid (Keeps (fun i => (Value.slice Ab O.length nb).ownBlock = some i) w5 wr)) (fun k _ => O.length - (intOf k).toNat)
          case atStart => exact ⟨0, Nat.zero_le _, rfl, O, rfl, B5.out, Keeps.refl _ _⟩
          case round =>
            obtain ⟨m, hm, rfl, zs, hz, hrow, hkeep⟩ := hrel
            by_cases hlt : m < O.length
            · obtain ⟨g, rfl⟩ := hrow.out.head (by omega)
              obtain ⟨c1, c2, _⟩ := hrow.out.cell m hlt
              obtain ⟨z, hzz⟩ : ∃ z, z = zs.getD m 0 := ⟨_, rfl⟩
              rw [← hzz] at c1
              clear hzz
              have hi : (m : Int) < (O.length : Int) := by omega
              go_wp2
              go_roundw
              case rel => exact ⟨m + 1, by omega, by go_num, zs.set m _, (by show _ = _; rw [List.length_set]; exact hz.out), hrow.out.store hlt _, hkeep.out.setCell _ _ (fun _ => rfl)⟩
              case measure => simp [intOf]; omega
            · have hge1 : ¬ (m : Int) < (O.length : Int) := by omega
              clear hlt hm
              obtain ⟨w6, rfl⟩ : ∃ w6 : World, w6 = wr := ⟨_, rfl⟩
              have hFb : Hid (∀ k, F k → ¬ (Value.slice Ab O.length nb).ownBlock = some k) := fun k hk e => by have := HF.out k hk; have := lb.out k e; omega
              have K6 := Lib.hid (K5.out.trans hkeep.out (fun i hi hs => by have := BB.out i hs; have := K2.out.size; omega))
              have T6 := Lib.hid (T5.out.kept hkeep.out hFb.out)
              clear hkeep T5 K5 B5 hFb hrow
              go_wp2_with fail
              refine (in_any _ p F I O T6.out).mono ?_
              rintro e w7 ⟨vx, rfl, hf7⟩
              have hFx : Hid (∀ k, F k → ¬ vx.ownBlock = some k) := fun k hk e => by have := T6.out.lt k hk; have := hf7.2.1 k e; omega
              have K7 := Lib.hid (K6.out.fresh hf7.2.2)
              have T7 := Lib.hid (T6.out.kept hf7.2.2 (fun _ _ h => h))
              have X7 := Lib.hid hf7.1
              have bx : Hid (∀ k, vx.ownBlock = some k → w.heap.size ≤ k) := fun k e => by have := hf7.2.1 k e; have := K6.out.size; omega
              clear hf7 T6 K6
              obtain ⟨Ax, nx, rfl⟩ := X7.out.shape
              go_wp2
              go_loopw [78] (fun k wr => ∃ m : Nat, m ≤ I.length ∧ k = .int .i64 m ∧ ∃ zs, Hid (zs.length = I.length) ∧ Hid (Row wr (.slice Ax I.length nx) zs) ∧ Hid (Keeps (fun i => (Value.slice Ax I.length nx).ownBlock = some i) w7 wr)) (fun k _ => I.length - (intOf k).toNat)
              case atStart => exact ⟨0, Nat.zero_le _, rfl, I, rfl, X7.out, Keeps.refl _ _⟩
              case round =>
                obtain ⟨m, hm, rfl, zs, hz, hrow, hkeep⟩ := hrel
                by_cases hlt : m < I.length
                · obtain ⟨g, rfl⟩ := hrow.out.head (by omega)
                  obtain ⟨c1, c2, _⟩ := hrow.out.cell m hlt
                  obtain ⟨z, hzz⟩ : ∃ z, z = zs.getD m 0 := ⟨_, rfl⟩
                  rw [← hzz] at c1
                  clear hzz
                  have hi : (m : Int) < (I.length : Int) := by omega
                  go_wp2
                  go_roundw
                  case rel => exact ⟨m + 1, by omega, by go_num, zs.set m _, (by show _ = _; rw [List.length_set]; exact hz.out), hrow.out.store hlt _, hkeep.out.setCell _ _ (fun _ => rfl)⟩
                  case measure => simp [intOf]; omega
                · have hge2 : ¬ (m : Int) < (I.length : Int) := by omega
                  clear hlt hm
                  obtain ⟨w8, rfl⟩ : ∃ w8 : World, w8 = wr := ⟨_, rfl⟩
                  have K8 := Lib.hid (K7.out.trans hkeep.out (fun i hi hs => by have := bx.out i hs; omega))
                  have T8 := Lib.hid (T7.out.kept hkeep.out hFx.out)
                  clear hkeep T7 K7 hrow hFx
                  go_wp2_with fail
                  refine (same_any _ p F I O T8.out _ _ I O (K8.out.reads HA.out) (K8.out.reads HB.out)).mono ?_
                  rintro e w9 ⟨rfl, hk9⟩
                  rw [sameB_self]
                  have K9 := Lib.hid (K8.out.fresh hk9); clear hk9
                  go_wp2
                  go_ret
                  exact ⟨rfl, K9.out⟩

end Go.Proofs.Ytadmmpfjdnfefaa
