/-
  The law TapeDoes, walked.
-/
import Derived.Test.YtadmmpfjdnfefaaRef3
namespace Go.Proofs.Ytadmmpfjdnfefaa
open Go.RowKit

/-- A tape and a reference's tape in new memory, apart from each other. -/
def Both (w0 w : World) (p x : Nat) (I O I2 O2 : List Int) : Prop :=
  ∃ F R : Nat → Prop, TapeAt w p F I O ∧ RefAt w x R I2 O2 ∧ (∀ k, R k → k < w.heap.size) ∧ (∀ k, F k → k ≠ x ∧ ¬ R k) ∧ (∀ k, F k → w0.heap.size ≤ k) ∧ w0.heap.size ≤ x ∧ Keeps (fun _ => False) w0 w

theorem RefAt.trim {w : World} {x : Nat} {R : Nat → Prop} {I O : List Int} (h : RefAt w x R I O) : RefAt w x (fun k => R k ∧ k < w.heap.size) I O := by
  obtain ⟨vi, vo, h0, h1, h2, h3, h4, h5, h6, h7⟩ := h
  exact ⟨vi, vo, h0, h1, h2, fun k e => ⟨h3 k e, h1.lt k e⟩, fun k e => ⟨h4 k e, h2.lt k e⟩, fun h => h5 h.1, h6, h7⟩
theorem RefAt.lt {w : World} {x : Nat} {R : Nat → Prop} {I O : List Int} (h : RefAt w x R I O) : x < w.heap.size := by
  obtain ⟨vi, vo, h0, _⟩ := h
  exact lt_of_block' h0
theorem Both.keeps {w0 w : World} {p x : Nat} {I O I2 O2 : List Int} (h : Both w0 w p x I O I2 O2) : Keeps (fun _ => False) w0 w := by
  obtain ⟨_, _, _, _, _, _, _, _, k⟩ := h
  exact k
theorem Both.kept {w0 w w' : World} {p x : Nat} {I O I2 O2 : List Int} (h : Both w0 w p x I O I2 O2) (hk : Keeps (fun _ => False) w w') : Both w0 w' p x I O I2 O2 := by
  obtain ⟨F, R, a, b, c, d, e, f, g⟩ := h
  have := hk.size
  exact ⟨F, R, a.kept hk (fun _ _ h => h), b.kept hk (fun h => h) (fun _ _ h => h), fun k hk => by have := c k hk; omega, d, e, f, g.trans hk (fun _ _ h => h)⟩

theorem do_both (w0 w : World) (p x : Nat) (I O I2 O2 : List Int) (o : Op2) (h : Both w0 w p x I O I2 O2) :
    Calls Try.prog 16 #[.pointer (some ⟨p, 0, none⟩), opV o] w fun e w' => e = .returned (.tuple #[.int .i64 (resN I O o), .int .i64 (resE I O o)]) ∧ Both w0 w' p x (nextI I o) (nextO O o) I2 O2 ∧ Others w w' := by
  obtain ⟨F, R, a, b, c, d, e, f, g⟩ := h
  refine (do_any w p F I O a o).mono fun e' w' ⟨he, hm⟩ => ⟨he, ?_, ?_⟩
  · obtain ⟨F', m1, m2, m3⟩ := hm
    have hs := g.size
    have hs3 := m3.size
    have hx := b.lt
    refine ⟨F', R, m1, b.kept m3 (fun hF => (d x hF).1 rfl) (fun k hR hF => (d k hF).2 hR), fun k hR => by have := c k hR; omega, fun k hF => ?_, fun k hF => ?_, f, g.trans m3 (fun k hk hF => by have := e k hF; omega)⟩
    · rcases m2 k hF with h | h
      · exact d k h
      · exact ⟨by omega, fun hR => by have := c k hR; omega⟩
    · rcases m2 k hF with h | h
      · exact e k h
      · omega
  · obtain ⟨_, _, _, m3⟩ := hm
    exact Others.of_keeps a m3
theorem ref_both (w0 w : World) (p x : Nat) (I O I2 O2 : List Int) (o : Op2) (h : Both w0 w p x I O I2 O2) :
    Calls Try.prog 17 #[.pointer (some ⟨x, 0, none⟩), opV o] w fun e w' => e = .returned (.tuple #[.int .i64 (resN I2 O2 o), .int .i64 (resE I2 O2 o)]) ∧ Both w0 w' p x I O (nextI I2 o) (nextO O2 o) ∧ Others w w' := by
  obtain ⟨F, R, a, b, c, d, e, f, g⟩ := h
  refine (ref_do w x R I2 O2 o b).mono fun e' w' ⟨he, hm⟩ => ⟨he, ?_, ?_⟩
  · obtain ⟨R', m1, m2, m3⟩ := hm
    have hs := g.size
    have hs3 := m3.size
    refine ⟨F, fun k => R' k ∧ k < w'.heap.size, a.kept m3 (fun k hF e => (d k hF).1 e), m1.trim, fun k hk => hk.2, fun k hF => ⟨(d k hF).1, fun hR => ?_⟩, e, f, g.trans m3 (fun k hk e => by omega)⟩
    rcases m2 k hR.1 with h | h
    · exact (d k hF).2 h
    · have := a.lt k hF; omega
  · obtain ⟨_, _, _, m3⟩ := hm
    obtain ⟨vi, vo, h0, _⟩ := b
    intro k cur hc
    refine (m3.block k (lt_of_block' hc) (fun e => ?_)).trans hc
    subst e
    rw [h0] at hc
    injection hc with hc
    injection hc with _ h2 _
    exact absurd h2 (by decide)
theorem Both.parts {w0 w : World} {p x : Nat} {I O I2 O2 : List Int} (h : Both w0 w p x I O I2 O2) :
    ∃ F vi vo, TapeAt w p F I O ∧ w.heap[x]? = some (.cells #[vi, vo] 35 (0, 0)) ∧ Reads w vi I2 ∧ Reads w vo O2 := by
  obtain ⟨F, R, a, ⟨vi, vo, h0, h1, h2, _⟩, _⟩ := h
  exact ⟨F, vi, vo, a, h0, h1, h2⟩
theorem Both.of_made {w0 w1 : World} {p : Nat} {I O I2 O2 : List Int} (h : Made w0 w1 p I O) (vi vo : Value) (hi : Reads w0 vi I2) (ho : Reads w0 vo O2) (h6 : I2.length ≤ 4096) (h7 : O2.length ≤ 4096) :
    Both w0 (w1.alloc (.cells #[vi, vo] 35)) p w1.heap.size I O I2 O2 := by
  obtain ⟨F, a, b, c⟩ := h
  have hs := c.size
  have ka : Keeps (fun _ => False) w1 (w1.alloc (.cells #[vi, vo] 35)) := (Keeps.refl _ _).alloc _
  have k2 := c.trans ka (fun _ _ h => h)
  refine ⟨F, fun k => k < w0.heap.size, a.kept ka (fun _ _ h => h), ⟨vi, vo, heap_new w1 _, hi.kept k2 (fun _ _ h => h), ho.kept k2 (fun _ _ h => h), fun k e => hi.lt k e, fun k e => ho.lt k e, by omega, h6, h7⟩, fun k hk => by simp; omega, fun k hF => ⟨?_, ?_⟩, b, hs, k2⟩
  · have := a.lt k hF; omega
  · have := b k hF; omega

set_option maxHeartbeats 2000000 in
theorem does_walk (w : World) (a b c : Value) (I O : List Int) (l : List Op2) (ha : Reads w a I) (hb : Reads w b O) (hc : ReadsOps w c l) :
    Calls Try.prog 4 #[a, b, c] w fun e w' => e = .returned (.bool true) ∧ KB w w' := by
  have HA := Lib.hid ha
  have HB := Lib.hid hb
  have HC := Lib.hid hc
  obtain ⟨A, ca, rfl⟩ := ha.form
  obtain ⟨B, cb, rfl⟩ := hb.form
  obtain ⟨C, cc, rfl⟩ := hc.form
  clear ha hb hc
  go_enter Try.func4, Try.ntmps4
  go_wp2_with fail
  refine (awake_any _).mono ?_
  rintro e w1 ⟨rfl, hk1⟩
  have K1 := Lib.hid ((KB.refl w).fresh hk1); clear hk1
  go_wp2_with fail
  refine (great_int _ _ _ _ I.length O.length l.length HA.out.form HB.out.form HC.out.form).mono ?_
  rintro e wx ⟨rfl, rfl⟩
  cases hbig : bigB I.length O.length l.length with
  | true =>
    go_wp2
    go_ret
    exact ⟨rfl, K1.out⟩
  | false =>
    have HL : Hid (l.length ≤ 60) := by
      unfold bigB at hbig
      rw [Bool.or_eq_false_iff, Bool.or_eq_false_iff, decide_eq_false_iff_not, decide_eq_false_iff_not, decide_eq_false_iff_not] at hbig
      show _ ≤ _
      omega
    clear hbig
    go_wp2_with fail
    by_cases hfull : 4096 < I.length ∨ 4096 < O.length
    · refine (new_fails _ _ _ I O (K1.out.reads HA.out) (K1.out.reads HB.out) hfull).mono ?_
      rintro e wx ⟨rfl, rfl⟩
      by_cases h1 : 4096 < I.length
      · have h1' : (4096 : Int) < (I.length : Int) := by omega
        clear h1 hfull
        go_wp2
        go_ret
        exact ⟨rfl, K1.out⟩
      · have h1' : decide ((4096 : Int) < (I.length : Int)) = false := by rw [decide_eq_false_iff_not]; omega
        have h2' : (4096 : Int) < (O.length : Int) := by omega
        clear h1 hfull
        go_wp2
        go_ret
        exact ⟨rfl, K1.out⟩
    · refine (new_ok _ _ _ I O (K1.out.reads HA.out) (K1.out.reads HB.out) (by omega) (by omega)).mono ?_
      rintro e w2 ⟨p, rfl, hm⟩
      have hB := Lib.hid (Both.of_made hm _ _ (K1.out.reads HA.out) (K1.out.reads HB.out) (by omega) (by omega))
      clear hfull hm
      have hll : (l.length : Int) ≤ 60 := by have := HL.out; omega
      obtain ⟨x, hx⟩ : ∃ x, x = w2.heap.size := ⟨_, rfl⟩
      rw [← hx] at hB
      have HX := Lib.hid hx; clear hx
      go_wp2
      rw [← HX.out]
      go_loopw [44] (fun s wr => ∃ j : Nat, j ≤ l.length ∧ s = .int .i64 j ∧ ∃ I' O', Hid (Both w1 wr p x I' O' I' O')) (fun s _ => l.length - (intOf s).toNat)
      case atStart => exact ⟨0, Nat.zero_le _, rfl, I, O, hB.out⟩
      case round =>
        obtain ⟨j, hj, rfl, I', O', hT⟩ := hrel
        by_cases hlt : j < l.length
        · have hjk : (j : Int) < (l.length : Int) := by omega
          obtain ⟨o, ho⟩ : ∃ o, l[j]? = some o := ⟨_, List.getElem?_eq_getElem hlt⟩
          obtain ⟨bb, off, rfl, hbb, c0, c1⟩ := HC.out.at_ ho
          have c0' : wr.cell? ⟨bb, off + j * 2, none⟩ = some (.int .i64 o.kind) := hT.out.keeps.cell' ((K1.out.cell c0 (by simpa using hbb)))
          have c1' : wr.cell? ⟨bb, off + j * 2 + 1, none⟩ = some (.int .i64 o.n) := hT.out.keeps.cell' ((K1.out.cell c1 (by simpa using hbb)))
          clear c0 c1 ho
          obtain ⟨qq, n⟩ := o
          dsimp only at c0' c1'
          have ka : Hid (Keeps (fun _ => False) wr (wr.alloc (.cells #[.int .i64 qq, .int .i64 n] 37))) := (Keeps.refl _ _).alloc _
          have TA := Lib.hid (hT.out.kept ka.out)
          have hO := Lib.hid (heap_new wr (.cells #[.int .i64 qq, .int .i64 n] 37))
          clear ka hT
          go_wp2_with fail
          refine (do_both w1 _ p x I' O' I' O' ⟨qq, n⟩ TA.out).mono ?_
          rintro e w5 ⟨rfl, h5, o5⟩
          have hO5 := Lib.hid (o5 _ _ hO.out)
          have T5 := Lib.hid h5
          clear o5 h5 hO TA
          have d0 : w5.cell? ⟨wr.heap.size, 0, none⟩ = some (.int .i64 qq) := by rw [cell_of_block hO5.out]; rfl
          have d1 : w5.cell? ⟨wr.heap.size, 1, none⟩ = some (.int .i64 n) := by rw [cell_of_block hO5.out]; rfl
          go_wp2_with fail
          refine (ref_both w1 _ p x _ _ I' O' ⟨qq, n⟩ T5.out).mono ?_
          rintro e w6 ⟨rfl, h6, _⟩
          have T6 := Lib.hid h6
          clear h6 d0 d1 T5 hO5
          go_wp2
          go_roundw
          case rel => exact ⟨j + 1, by omega, by go_num, _, _, T6⟩
          case measure => simp [intOf]; omega
        · have hjk : ¬ (j : Int) < (l.length : Int) := by omega
          clear hlt hj
          obtain ⟨w5, rfl⟩ : ∃ w5 : World, w5 = wr := ⟨_, rfl⟩
          obtain ⟨F, vi, vo, hT5, hx5, hi5, ho5⟩ := hT.out.parts
          have k5 := Lib.hid hT.out.keeps
          have d0 : w5.cell? ⟨x, 0, none⟩ = some vi := by rw [cell_of_block hx5]; rfl
          have d1 : w5.cell? ⟨x, 1, none⟩ = some vo := by rw [cell_of_block hx5]; rfl
          have T5 := Lib.hid hT5; clear hT5
          have I5 := Lib.hid hi5
          have O5 := Lib.hid ho5
          obtain ⟨Ai, ci, rfl⟩ := hi5.form
          obtain ⟨Ao, co, rfl⟩ := ho5.form
          clear hi5 ho5 hx5 hT
          go_wp2
          go_still_tail 9, (by kernel_rfl)
          change wpList _ _ _ _ _ w5.drew
          go_wp2_with fail
          refine (same_any w5.drew p F I' O' (T5.out.kept (S := fun _ => False) (Keeps.refl _ w5).drew (fun _ _ h => h)) _ _ I' O' I5.out O5.out).mono ?_
          rintro e w8 ⟨rfl, hk8⟩
          rw [sameB_self]
          have K8 := Lib.hid (K1.out.fresh (k5.out.trans ((Keeps.refl _ w5).drew.trans hk8 (fun _ _ h => h)) (fun _ _ h => h)))
          clear hk8 d0 d1
          go_wp2
          go_ret
          exact ⟨rfl, K8.out⟩

end Go.Proofs.Ytadmmpfjdnfefaa
