/-
  The law TapeNil, walked.
-/
import Derived.Test.YtadmmpfjdnfefaaDoes
namespace Go.Proofs.Ytadmmpfjdnfefaa
open Go.RowKit

theorem nil_read (w : World) : Calls Try.prog 20 #[.pointer none] w fun e w' => e = .returned (.tuple #[.int .i64 0, .int .i64 1]) ∧ w = w' := by
  go_enter Try.func20, Try.ntmps20
  go_wp2
  go_ret2
  exact ⟨rfl, rfl⟩
theorem nil_unread (w : World) (n : Int) : Calls Try.prog 23 #[.pointer none, .int .i64 n] w fun e w' => e = .returned (.int .i64 1) ∧ w = w' := by
  go_enter Try.func23, Try.ntmps23
  go_wp2
  go_ret
  exact ⟨rfl, rfl⟩
theorem nil_write (w : World) (n : Int) : Calls Try.prog 21 #[.pointer none, .int .i64 n] w fun e w' => e = .returned (.int .i64 1) ∧ w = w' := by
  go_enter Try.func21, Try.ntmps21
  go_wp2
  go_ret
  exact ⟨rfl, rfl⟩
theorem nil_unwrite (w : World) : Calls Try.prog 22 #[.pointer none] w fun e w' => e = .returned (.tuple #[.int .i64 0, .int .i64 1]) ∧ w = w' := by
  go_enter Try.func22, Try.ntmps22
  go_wp2
  go_ret2
  exact ⟨rfl, rfl⟩
theorem nil_in (w : World) : Calls Try.prog 14 #[.pointer none] w fun e w' => e = .returned (.slice none 0 0) ∧ w = w' := by
  go_enter Try.func14, Try.ntmps14
  go_wp2
  go_ret
  exact ⟨rfl, rfl⟩
theorem nil_out (w : World) : Calls Try.prog 19 #[.pointer none] w fun e w' => e = .returned (.slice none 0 0) ∧ w = w' := by
  go_enter Try.func19, Try.ntmps19
  go_wp2
  go_ret
  exact ⟨rfl, rfl⟩

theorem nil_do (w : World) (o : Op2) : Calls Try.prog 16 #[.pointer none, opV o] w fun e w' => e = .returned (.tuple #[.int .i64 0, .int .i64 1]) ∧ Keeps (fun _ => False) w w' := by
  obtain ⟨q, n⟩ := o
  unfold opV
  have hk : Hid (Keeps (fun _ => False) w (w.alloc (.cells #[.int .i64 q, .int .i64 n] 37))) := (Keeps.refl _ w).alloc _
  by_cases h1 : q = 1
  · subst h1
    go_enter Try.func16, Try.ntmps16
    go_wp2_with fail
    refine (nil_read _).mono ?_
    rintro e wx ⟨rfl, rfl⟩
    go_wp2
    go_ret2
    exact ⟨rfl, hk.out⟩
  by_cases h2 : q = 2
  · subst h2
    clear h1
    go_enter Try.func16, Try.ntmps16
    go_wp2_with fail
    refine (nil_unread _ _).mono ?_
    rintro e wx ⟨rfl, rfl⟩
    go_wp2
    go_ret2
    exact ⟨rfl, hk.out⟩
  by_cases h3 : q = 3
  · subst h3
    clear h1 h2
    go_enter Try.func16, Try.ntmps16
    go_wp2_with fail
    refine (nil_write _ _).mono ?_
    rintro e wx ⟨rfl, rfl⟩
    go_wp2
    go_ret2
    exact ⟨rfl, hk.out⟩
  · have d1 : (q == 1) = false := by rw [beq_eq_false_iff_ne]; exact h1
    have d2 : (q == 2) = false := by rw [beq_eq_false_iff_ne]; exact h2
    have d3 : (q == 3) = false := by rw [beq_eq_false_iff_ne]; exact h3
    clear h1 h2 h3
    go_enter Try.func16, Try.ntmps16
    go_wp2_with fail
    refine (nil_unwrite _).mono ?_
    rintro e wx ⟨rfl, rfl⟩
    go_wp2
    go_ret2
    exact ⟨rfl, hk.out⟩

theorem Both.zero (w : World) (p x : Nat) (hp : w.heap[p]? = some (.cells #[.slice none 0 0, .slice none 0 0] 48 (0, 0))) (hx : w.heap[x]? = some (.cells #[.slice none 0 0, .slice none 0 0] 35 (0, 0))) (w0 : World) (h0 : w0.heap.size ≤ p) (h1 : w0.heap.size ≤ x) (hk : Keeps (fun _ => False) w0 w) :
    Both w0 w p x [] [] [] [] := by
  have hne : p ≠ x := fun e => by
    subst e
    rw [hp] at hx
    injection hx with hx
    injection hx with _ h2 _
    exact absurd h2 (by decide)
  refine ⟨fun k => k = p, fun _ => False, ⟨_, _, hp, Row.nil _, Row.nil _, fun k h => by simp [Value.ownBlock] at h, by decide, by decide, fun k => ?_⟩, ⟨_, _, hx, reads_nil _, reads_nil _, fun k h => by simp [blk] at h, fun k h => by simp [blk] at h, fun h => h, by decide, by decide⟩, fun _ h => h.elim, fun k hF => ⟨fun e => hne (by rw [← hF, ← e]), fun h => h⟩, fun k hF => by rw [hF]; exact h0, h1, hk⟩
  constructor
  · exact .inl
  · rintro (h | h | h)
    · exact h
    · simp [Value.ownBlock] at h
    · simp [Value.ownBlock] at h

set_option maxHeartbeats 4000000 in
theorem nil_walk (w : World) (c : Value) (l : List Op2) (hc : ReadsOps w c l) :
    Calls Try.prog 10 #[c] w fun e w' => e = .returned (.bool true) ∧ KB w w' := by
  have HC := Lib.hid hc
  obtain ⟨C, cc, rfl⟩ := hc.form
  clear hc
  go_enter Try.func10, Try.ntmps10
  go_wp2_with fail
  refine (awake_any _).mono ?_
  rintro e w1 ⟨rfl, hk1⟩
  have K1 := Lib.hid ((KB.refl w).fresh hk1); clear hk1
  go_wp2_with fail
  refine (great_int _ _ _ _ 0 0 l.length ⟨_, _, rfl⟩ ⟨_, _, rfl⟩ HC.out.form).mono ?_
  rintro e wx ⟨rfl, rfl⟩
  cases hbig : bigB 0 0 l.length with
  | true =>
    go_wp2
    go_ret
    exact ⟨rfl, K1.out⟩
  | false =>
    have HL : Hid (l.length ≤ 60) := by
      unfold bigB at hbig
      rw [Bool.or_eq_false_iff, Bool.or_eq_false_iff] at hbig
      have h := of_decide_eq_false hbig.2
      show _ ≤ _
      omega
    clear hbig
    have hll : (l.length : Int) ≤ 60 := by have := HL.out; omega
    have hB : Hid (Both w1 ((w1.alloc (.cells #[.slice none 0 0, .slice none 0 0] 48)).alloc (.cells #[.slice none 0 0, .slice none 0 0] 35)) w1.heap.size (w1.heap.size + 1) [] [] [] []) := by
      refine Both.zero _ _ _ ?_ ?_ w1 (Nat.le_refl _) (Nat.le_succ _) (((Keeps.refl _ w1).alloc _).alloc _)
      · exact (Below.heap_alloc _ _ _ (by simp)).trans (heap_new w1 _)
      · have h := heap_new (w1.alloc (.cells #[.slice none 0 0, .slice none 0 0] 48)) (.cells #[.slice none 0 0, .slice none 0 0] 35)
        rw [World.size_alloc] at h
        exact h
    obtain ⟨p, hp⟩ : ∃ p, p = w1.heap.size := ⟨_, rfl⟩
    obtain ⟨x, hx⟩ : ∃ x, x = w1.heap.size + 1 := ⟨_, rfl⟩
    rw [← hx, ← hp] at hB
    have HP := Lib.hid hp; clear hp
    have HX := Lib.hid hx; clear hx
    go_wp2
    rw [← HX.out, ← HP.out]
    go_loopw [22] (fun s wr => ∃ j : Nat, j ≤ l.length ∧ s = .int .i64 j ∧ ∃ I' O', Hid (Both w1 wr p x I' O' I' O')) (fun s _ => l.length - (intOf s).toNat)
    case atStart => exact ⟨0, Nat.zero_le _, rfl, [], [], hB.out⟩
    case round =>
      obtain ⟨j, hj, rfl, I', O', hT⟩ := hrel
      by_cases hlt : j < l.length
      · have hjk : (j : Int) < (l.length : Int) := by omega
        obtain ⟨o, ho⟩ : ∃ o, l[j]? = some o := ⟨_, List.getElem?_eq_getElem hlt⟩
        obtain ⟨bb, off, rfl, hbb, c0, c1⟩ := HC.out.at_ ho
        have c0' : wr.cell? ⟨bb, off + j * 2, none⟩ = some (.int .i64 o.kind) := hT.out.keeps.cell' ((K1.out.cell c0 (by simpa using hbb)))
        have c1' : wr.cell? ⟨bb, off + j * 2 + 1, none⟩ = some (.int .i64 o.n) := hT.out.keeps.cell' ((K1.out.cell c1 (by simpa using hbb)))
        clear c0 c1 ho
        obtain ⟨qq, n⟩ := o
        dsimp only at c0' c1'
        have ka : Hid (Keeps (fun _ => False) wr (wr.alloc (.cells #[.int .i64 qq, .int .i64 n] 37))) := (Keeps.refl _ _).alloc _
        have TA := Lib.hid (hT.out.kept ka.out)
        have hO := Lib.hid (heap_new wr (.cells #[.int .i64 qq, .int .i64 n] 37))
        clear ka hT
        go_wp2_with fail
        refine (nil_do _ ⟨qq, n⟩).mono ?_
        rintro e w4 ⟨rfl, hk4⟩
        have hO4 := Lib.hid (Others.of_new hk4 _ _ hO.out)
        have T4 := Lib.hid (TA.out.kept hk4)
        clear hk4 hO TA
        have d0 : w4.cell? ⟨wr.heap.size, 0, none⟩ = some (.int .i64 qq) := by rw [cell_of_block hO4.out]; rfl
        have d1 : w4.cell? ⟨wr.heap.size, 1, none⟩ = some (.int .i64 n) := by rw [cell_of_block hO4.out]; rfl
        go_wp2_with fail
        refine (do_both w1 _ p x I' O' I' O' ⟨qq, n⟩ T4.out).mono ?_
        rintro e w5 ⟨rfl, h5, o5⟩
        have hO5 := Lib.hid (o5 _ _ hO4.out)
        have T5 := Lib.hid h5
        clear o5 h5 hO4 T4 d0 d1
        have d0 : w5.cell? ⟨wr.heap.size, 0, none⟩ = some (.int .i64 qq) := by rw [cell_of_block hO5.out]; rfl
        have d1 : w5.cell? ⟨wr.heap.size, 1, none⟩ = some (.int .i64 n) := by rw [cell_of_block hO5.out]; rfl
        go_wp2_with fail
        refine (ref_both w1 _ p x _ _ I' O' ⟨qq, n⟩ T5.out).mono ?_
        rintro e w6 ⟨rfl, h6, _⟩
        have T6 := Lib.hid h6
        clear h6 d0 d1 T5 hO5
        go_wp2
        go_roundw
        case rel => exact ⟨j + 1, by omega, by go_num, _, _, T6⟩
        case measure => simp [intOf]; omega
      · have hjk : ¬ (j : Int) < (l.length : Int) := by omega
        clear hlt hj
        obtain ⟨w5, rfl⟩ : ∃ w5 : World, w5 = wr := ⟨_, rfl⟩
        obtain ⟨F, vi, vo, hT5, hx5, hi5, ho5⟩ := hT.out.parts
        have k5 := Lib.hid hT.out.keeps
        have d0 : w5.cell? ⟨x, 0, none⟩ = some vi := by rw [cell_of_block hx5]; rfl
        have d1 : w5.cell? ⟨x, 1, none⟩ = some vo := by rw [cell_of_block hx5]; rfl
        have T5 := Lib.hid hT5; clear hT5
        have I5 := Lib.hid hi5
        have O5 := Lib.hid ho5
        obtain ⟨Ai, ci, rfl⟩ := hi5.form
        obtain ⟨Ao, co, rfl⟩ := ho5.form
        clear hi5 ho5 hx5 hT
        have hsame : Hid (Calls Try.prog 15 #[.pointer (some ⟨p, 0, none⟩), .slice Ai I'.length ci, .slice Ao O'.length co] w5.drew (fun e w' => e = .returned (.bool true) ∧ Hid (KB w w'))) := by
          refine (same_any w5.drew p F I' O' (T5.out.kept (S := fun _ => False) (Keeps.refl _ w5).drew (fun _ _ h => h)) _ _ I' O' I5.out O5.out).mono ?_
          rintro e w8 ⟨rfl, hk8⟩
          exact ⟨by rw [sameB_self], K1.out.fresh (k5.out.trans ((Keeps.refl _ w5).drew.trans hk8 (fun _ _ h => h)) (fun _ _ h => h))⟩
        go_wp2
        go_still_tail 19, (by kernel_rfl)
        still_call ((nil_in _).mono fun e w' h => ⟨h.1, h.2.symm⟩)
        repeat still_step
        still_call ((nil_out _).mono fun e w' h => ⟨h.1, h.2.symm⟩)
        repeat still_step
        refine wpStill_nil ?_
        change wpList _ _ _ _ _ w5.drew
        go_wp2_with fail
        refine hsame.out.mono ?_
        rintro e w8 ⟨rfl, K8⟩
        clear d0 d1
        go_wp2
        go_ret
        exact ⟨rfl, K8.out⟩

end Go.Proofs.Ytadmmpfjdnfefaa
