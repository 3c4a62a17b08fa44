/-
  The law TapeApart, walked.
-/
import Derived.Test.YtadmmpfjdnfefaaUndo
namespace Go.Proofs.Ytadmmpfjdnfefaa
open Go.RowKit

/-- A list of tapes in new memory, no two of which share a block: one in front, the others behind. -/
def Apart (F G : Nat → Prop) : Prop := ∀ k, F k → G k → False
theorem Apart.symm {F G : Nat → Prop} (h : Apart F G) : Apart G F := fun k a b => h k b a
/-- Three tapes. -/
def Three (w0 w : World) (p q r : Nat) (I O I2 O2 I3 O3 : List Int) : Prop :=
  ∃ F G H : Nat → Prop, TapeAt w p F I O ∧ TapeAt w q G I2 O2 ∧ TapeAt w r H I3 O3 ∧ Apart F G ∧ Apart F H ∧ Apart G H ∧ (∀ k, F k → w0.heap.size ≤ k) ∧ (∀ k, G k → w0.heap.size ≤ k) ∧ (∀ k, H k → w0.heap.size ≤ k) ∧ Keeps (fun _ => False) w0 w
theorem Three.turn {w0 w : World} {p q r : Nat} {I O I2 O2 I3 O3 : List Int} (h : Three w0 w p q r I O I2 O2 I3 O3) : Three w0 w q p r I2 O2 I O I3 O3 := by
  obtain ⟨F, G, H, a, b, c, d, e, f, g, i, j, k⟩ := h
  exact ⟨G, F, H, b, a, c, d.symm, f, e, i, g, j, k⟩
theorem Three.roll {w0 w : World} {p q r : Nat} {I O I2 O2 I3 O3 : List Int} (h : Three w0 w p q r I O I2 O2 I3 O3) : Three w0 w r p q I3 O3 I O I2 O2 := by
  obtain ⟨F, G, H, a, b, c, d, e, f, g, i, j, k⟩ := h
  exact ⟨H, F, G, c, a, b, e.symm, f.symm, d, j, g, i, k⟩
theorem Three.back {w0 w : World} {p q r : Nat} {I O I2 O2 I3 O3 : List Int} (h : Three w0 w r p q I3 O3 I O I2 O2) : Three w0 w p q r I O I2 O2 I3 O3 := h.roll.roll
theorem Three.kept {w0 w w' : World} {p q r : Nat} {I O I2 O2 I3 O3 : List Int} (h : Three w0 w p q r I O I2 O2 I3 O3) (hk : Keeps (fun _ => False) w w') : Three w0 w' p q r I O I2 O2 I3 O3 := by
  obtain ⟨F, G, H, a, b, c, d, e, f, g, i, j, k⟩ := h
  exact ⟨F, G, H, a.kept hk (fun _ _ h => h), b.kept hk (fun _ _ h => h), c.kept hk (fun _ _ h => h), d, e, f, g, i, j, k.trans hk (fun _ _ h => h)⟩
theorem Three.keeps {w0 w : World} {p q r : Nat} {I O I2 O2 I3 O3 : List Int} (h : Three w0 w p q r I O I2 O2 I3 O3) : Keeps (fun _ => False) w0 w := by
  obtain ⟨_, _, _, _, _, _, _, _, _, _, _, _, k⟩ := h
  exact k
theorem Three.foot {w0 w : World} {p q r : Nat} {I O I2 O2 I3 O3 : List Int} (h : Three w0 w p q r I O I2 O2 I3 O3) : ∃ F, TapeAt w p F I O := by
  obtain ⟨F, _, _, a, _⟩ := h
  exact ⟨F, a⟩

theorem do_three (w0 w : World) (p q r : Nat) (I O I2 O2 I3 O3 : List Int) (o : Op2) (h : Three w0 w p q r I O I2 O2 I3 O3) :
    Calls Try.prog 16 #[.pointer (some ⟨p, 0, none⟩), opV o] w fun e w' => e = .returned (.tuple #[.int .i64 (resN I O o), .int .i64 (resE I O o)]) ∧ Three w0 w' p q r (nextI I o) (nextO O o) I2 O2 I3 O3 ∧ Others w w' := by
  obtain ⟨F, G, H, a, b, c, d, e, f, g, i, j, k⟩ := h
  refine (do_any w p F I O a o).mono fun e' w' ⟨he, hm⟩ => ⟨he, ?_, ?_⟩
  · obtain ⟨F', m1, m2, m3⟩ := hm
    have hs := k.size
    refine ⟨F', G, H, m1, b.kept m3 (fun x hG hF => d x hF hG), c.kept m3 (fun x hH hF => e x hF hH), fun x hF hG => ?_, fun x hF hH => ?_, f, fun x hF => ?_, i, j, k.trans m3 (fun x hx hF => by have := g x hF; omega)⟩
    · rcases m2 x hF with h | h
      · exact d x h hG
      · have := b.lt x hG; omega
    · rcases m2 x hF with h | h
      · exact e x h hH
      · have := c.lt x hH; omega
    · rcases m2 x hF with h | h
      · exact g x h
      · omega
  · obtain ⟨_, _, _, m3⟩ := hm
    exact Others.of_keeps a m3

theorem Three.of_made {w0 w1 w2 w3 : World} {p q r : Nat} {I O I2 O2 I3 O3 : List Int} (h1 : Made w0 w1 p I O) (h2 : Made w1 w2 q I2 O2) (h3 : Made w2 w3 r I3 O3) : Three w0 w3 p q r I O I2 O2 I3 O3 := by
  obtain ⟨F, a1, a2, a3⟩ := h1
  obtain ⟨G, b1, b2, b3⟩ := h2
  obtain ⟨H, c1, c2, c3⟩ := h3
  have s1 := a3.size
  have s2 := b3.size
  have k13 : Keeps (fun _ => False) w1 w3 := b3.trans c3 (fun _ _ h => h)
  refine ⟨F, G, H, a1.kept k13 (fun _ _ h => h), b1.kept c3 (fun _ _ h => h), c1, fun k x y => ?_, fun k x y => ?_, fun k x y => ?_, a2, fun k x => ?_, fun k x => ?_, a3.trans k13 (fun _ _ h => h)⟩
  · have := a1.lt k x; have := b2 k y; omega
  · have := a1.lt k x; have := c2 k y; omega
  · have := b1.lt k x; have := c2 k y; omega
  · have := b2 k x; omega
  · have := c2 k x; omega

/-- Plain: which tape an operation touches. -/
def onIn (o : Op2) : Bool := o.kind == 1 || o.kind == 2
theorem apart_in {I O : List Int} {o : Op2} (h : onIn o = true) : resN I [] o = resN I O o ∧ resE I [] o = resE I O o ∧ nextO [] o = [] ∧ nextO O o = O := by
  obtain ⟨q, n⟩ := o
  simp only [onIn, Bool.or_eq_true, beq_iff_eq] at h
  rcases h with rfl | rfl
  · exact ⟨rfl, rfl, rfl, rfl⟩
  · exact ⟨rfl, rfl, rfl, rfl⟩
theorem apart_out {I O : List Int} {o : Op2} (h : onIn o = false) : resN [] O o = resN I O o ∧ resE [] O o = resE I O o ∧ nextI [] o = [] ∧ nextI I o = I := by
  obtain ⟨q, n⟩ := o
  simp only [onIn, Bool.or_eq_false_iff, beq_eq_false_iff_ne, ne_eq] at h
  obtain ⟨h1, h2⟩ := h
  refine ⟨?_, ?_, ?_, ?_⟩
  · simp only [resN, if_neg h1, if_neg h2]
  · simp only [resE, if_neg h1, if_neg h2]
  · simp only [nextI, if_neg h1, if_neg h2]
  · simp only [nextI, if_neg h1, if_neg h2]

theorem in_three (w0 w : World) (p q r : Nat) (I O I2 O2 I3 O3 : List Int) (h : Three w0 w p q r I O I2 O2 I3 O3) :
    Calls Try.prog 14 #[.pointer (some ⟨p, 0, none⟩)] w fun e w' => ∃ v, e = .returned v ∧ Row w' v I ∧ Keeps (fun _ => False) w w' ∧ Three w0 w' p q r I O I2 O2 I3 O3 := by
  obtain ⟨F, a⟩ := h.foot
  refine (in_any w p _ I O a).mono ?_
  rintro e w' ⟨v, rfl, hf⟩
  exact ⟨v, rfl, hf.1, hf.2.2, h.kept hf.2.2⟩
theorem out_three (w0 w : World) (p q r : Nat) (I O I2 O2 I3 O3 : List Int) (h : Three w0 w p q r I O I2 O2 I3 O3) :
    Calls Try.prog 19 #[.pointer (some ⟨p, 0, none⟩)] w fun e w' => ∃ v, e = .returned v ∧ Row w' v O ∧ Keeps (fun _ => False) w w' ∧ Three w0 w' p q r I O I2 O2 I3 O3 := by
  obtain ⟨F, a⟩ := h.foot
  refine (out_any w p _ I O a).mono ?_
  rintro e w' ⟨v, rfl, hf⟩
  exact ⟨v, rfl, hf.1, hf.2.2, h.kept hf.2.2⟩

/-- New, whatever comes of it. -/
theorem new_gen (w : World) (a b : Value) (I O : List Int) (ha : Reads w a I) (hb : Reads w b O) :
    Calls Try.prog 13 #[a, b] w fun e w' => ∃ p n, e = .returned (.tuple #[.pointer p, .int .i64 n]) ∧ Keeps (fun _ => False) w w' := by
  by_cases h : 4096 < I.length ∨ 4096 < O.length
  · refine (new_fails w a b I O ha hb h).mono ?_
    rintro e w' ⟨rfl, rfl⟩
    exact ⟨_, _, rfl, Keeps.refl _ _⟩
  · refine (new_ok w a b I O ha hb (by omega) (by omega)).mono ?_
    rintro e w' ⟨p, rfl, _, _, _, hk⟩
    exact ⟨_, _, rfl, hk⟩

set_option maxHeartbeats 4000000 in
theorem apart_walk (w : World) (a b c : Value) (I O : List Int) (l : List Op2) (ha : Reads w a I) (hb : Reads w b O) (hc : ReadsOps w c l) :
    Calls Try.prog 7 #[a, b, c] w fun e w' => e = .returned (.bool true) ∧ KB w w' := by
  have HA := Lib.hid ha
  have HB := Lib.hid hb
  have HC := Lib.hid hc
  obtain ⟨A, ca, rfl⟩ := ha.form
  obtain ⟨B, cb, rfl⟩ := hb.form
  obtain ⟨C, cc, rfl⟩ := hc.form
  clear ha hb hc
  go_enter Try.func7, Try.ntmps7
  go_wp2_with fail
  refine (awake_any _).mono ?_
  rintro e w1 ⟨rfl, hk1⟩
  have K1 := Lib.hid ((KB.refl w).fresh hk1); clear hk1
  go_wp2_with fail
  refine (great_int _ _ _ _ I.length O.length l.length HA.out.form HB.out.form HC.out.form).mono ?_
  rintro e wx ⟨rfl, rfl⟩
  cases hbig : bigB I.length O.length l.length with
  | true =>
    go_wp2
    go_ret
    exact ⟨rfl, K1.out⟩
  | false =>
    have HL : Hid (l.length ≤ 60) := by
      unfold bigB at hbig
      rw [Bool.or_eq_false_iff, Bool.or_eq_false_iff, decide_eq_false_iff_not, decide_eq_false_iff_not, decide_eq_false_iff_not] at hbig
      show _ ≤ _
      omega
    clear hbig
    go_wp2_with fail
    by_cases hfull : 4096 < I.length ∨ 4096 < O.length
    · refine (new_fails _ _ _ I O (K1.out.reads HA.out) (K1.out.reads HB.out) hfull).mono ?_
      rintro e wx ⟨rfl, rfl⟩
      clear hfull
      go_wp2_with fail
      refine (new_gen _ _ _ I [] (K1.out.reads HA.out) (reads_nil _)).mono ?_
      rintro e w3 ⟨q, n3, rfl, hk3⟩
      have K3 := Lib.hid (K1.out.fresh hk3); clear hk3
      go_wp2_with fail
      refine (new_gen _ _ _ [] O (reads_nil _) (K3.out.reads HB.out)).mono ?_
      rintro e w4 ⟨r, n4, rfl, hk4⟩
      have K4 := Lib.hid (K3.out.fresh hk4); clear hk4
      go_wp2
      go_ret
      exact ⟨rfl, K4.out⟩
    · have HLE := Lib.hid (show I.length ≤ 4096 ∧ O.length ≤ 4096 by omega)
      clear hfull
      refine (new_ok _ _ _ I O (K1.out.reads HA.out) (K1.out.reads HB.out) HLE.out.1 HLE.out.2).mono ?_
      rintro e w2 ⟨p, rfl, hm2⟩
      have M2 := Lib.hid hm2; clear hm2
      have K2 : Hid (KB w w2) := by obtain ⟨_, _, _, k⟩ := M2.out; exact K1.out.fresh k
      go_wp2_with fail
      refine (new_ok _ _ _ I [] (K2.out.reads HA.out) (reads_nil _) HLE.out.1 (by decide)).mono ?_
      rintro e w3 ⟨q, rfl, hm3⟩
      have M3 := Lib.hid hm3; clear hm3
      have K3 : Hid (KB w w3) := by obtain ⟨_, _, _, k⟩ := M3.out; exact K2.out.fresh k
      go_wp2_with fail
      refine (new_ok _ _ _ [] O (reads_nil _) (K3.out.reads HB.out) (by decide) HLE.out.2).mono ?_
      rintro e w4 ⟨r, rfl, hm4⟩
      have T4 := Lib.hid (Three.of_made M2.out M3.out hm4)
      clear hm4 M2 M3 K2 K3
      have hll : (l.length : Int) ≤ 60 := by have := HL.out; omega
      go_wp2
      go_loopw [54] (fun s wr => ∃ j : Nat, j ≤ l.length ∧ s = .int .i64 j ∧ ∃ I' O', Hid (Three w1 wr p q r I' O' I' [] [] O')) (fun s _ => l.length - (intOf s).toNat)
      case atStart => exact ⟨0, Nat.zero_le _, rfl, I, O, T4.out⟩
      case round =>
        obtain ⟨j, hj, rfl, I', O', hT⟩ := hrel
        by_cases hlt : j < l.length
        · have hjk : (j : Int) < (l.length : Int) := by omega
          obtain ⟨o, ho⟩ : ∃ o, l[j]? = some o := ⟨_, List.getElem?_eq_getElem hlt⟩
          obtain ⟨bb, off, rfl, hbb, c0, c1⟩ := HC.out.at_ ho
          have c0' : wr.cell? ⟨bb, off + j * 2, none⟩ = some (.int .i64 o.kind) := hT.out.keeps.cell' ((K1.out.cell c0 (by simpa using hbb)))
          have c1' : wr.cell? ⟨bb, off + j * 2 + 1, none⟩ = some (.int .i64 o.n) := hT.out.keeps.cell' ((K1.out.cell c1 (by simpa using hbb)))
          clear c0 c1 ho
          obtain ⟨qq, n⟩ := o
          dsimp only at c0' c1'
          have ka : Hid (Keeps (fun _ => False) wr (wr.alloc (.cells #[.int .i64 qq, .int .i64 n] 37))) := (Keeps.refl _ _).alloc _
          have TA := Lib.hid (hT.out.kept ka.out)
          have hO := Lib.hid (heap_new wr (.cells #[.int .i64 qq, .int .i64 n] 37))
          clear ka hT
          cases hin : onIn ⟨qq, n⟩ with
          | true =>
            have HI := Lib.hid hin
            have hq : (qq == 1) = true ∨ ((qq == 1) = false ∧ (qq == 2) = true) := by
              simp only [onIn] at hin
              cases h1 : (qq == 1) with
              | true => exact .inl rfl
              | false => rw [h1] at hin; exact .inr ⟨rfl, by simpa using hin⟩
            clear hin
            rcases hq with t1 | ⟨t1, t2⟩
            all_goals
              go_wp2_with fail
              refine (do_three w1 _ p q r I' O' I' [] [] O' ⟨qq, n⟩ TA.out).mono ?_
              rintro e w5 ⟨rfl, h5, o5⟩
              have hO5 := Lib.hid (o5 _ _ hO.out)
              have T5 := Lib.hid h5.turn
              clear o5 h5 hO TA
              have d0 : w5.cell? ⟨wr.heap.size, 0, none⟩ = some (.int .i64 qq) := by rw [cell_of_block hO5.out]; rfl
              have d1 : w5.cell? ⟨wr.heap.size, 1, none⟩ = some (.int .i64 n) := by rw [cell_of_block hO5.out]; rfl
              go_wp2_with fail
              refine (do_three w1 _ q p r I' [] _ _ [] O' ⟨qq, n⟩ T5.out).mono ?_
              rintro e w6 ⟨rfl, h6, _⟩
              obtain ⟨e1, e2, e3, e4⟩ := apart_in (I := I') (O := O') HI.out
              rw [e1, e2]
              rw [e3, e4] at h6
              have T6 := Lib.hid h6.turn
              clear h6 e1 e2 e3 e4 d0 d1 T5 hO5
              go_wp2
              go_roundw
              case rel => exact ⟨j + 1, by omega, by go_num, _, _, T6⟩
              case measure => simp [intOf]; omega
          | false =>
            have HI := Lib.hid hin
            have hq : (qq == 1) = false ∧ (qq == 2) = false := by simpa only [onIn, Bool.or_eq_false_iff] using hin
            clear hin
            obtain ⟨t1, t2⟩ := hq
            go_wp2_with fail
            refine (do_three w1 _ p q r I' O' I' [] [] O' ⟨qq, n⟩ TA.out).mono ?_
            rintro e w5 ⟨rfl, h5, o5⟩
            have hO5 := Lib.hid (o5 _ _ hO.out)
            have T5 := Lib.hid h5.roll
            clear o5 h5 hO TA
            have d0 : w5.cell? ⟨wr.heap.size, 0, none⟩ = some (.int .i64 qq) := by rw [cell_of_block hO5.out]; rfl
            have d1 : w5.cell? ⟨wr.heap.size, 1, none⟩ = some (.int .i64 n) := by rw [cell_of_block hO5.out]; rfl
            go_wp2_with fail
            refine (do_three w1 _ r p q [] O' _ _ I' [] ⟨qq, n⟩ T5.out).mono ?_
            rintro e w6 ⟨rfl, h6, _⟩
            obtain ⟨e1, e2, e3, e4⟩ := apart_out (I := I') (O := O') HI.out
            rw [e1, e2]
            rw [e3, e4] at h6
            have T6 := Lib.hid h6.back
            clear h6 e1 e2 e3 e4 d0 d1 T5 hO5
            go_wp2
            go_roundw
            case rel => exact ⟨j + 1, by omega, by go_num, _, _, T6⟩
            case measure => simp [intOf]; omega
        · have hjk : ¬ (j : Int) < (l.length : Int) := by omega
          clear hlt hj
          obtain ⟨w5, rfl⟩ : ∃ w5 : World, w5 = wr := ⟨_, rfl⟩
          have TT := Lib.hid hT.out.turn
          clear hT
          go_wp2_with fail
          refine (in_three w1 _ q p r I' [] I' O' [] O' TT.out).mono ?_
          rintro e w6 ⟨v6, rfl, hr6, hk6, h6⟩
          have R6 := Lib.hid hr6
          have T6 := Lib.hid h6.turn.roll
          clear h6 hk6 hr6 TT
          go_wp2_with fail
          refine (out_three w1 _ r p q [] O' I' O' I' [] T6.out).mono ?_
          rintro e w7 ⟨v7, rfl, hr7, hk7, h7⟩
          have R7 := Lib.hid hr7
          have R67 := Lib.hid (R6.out.kept hk7 (fun _ _ h => h))
          have T7 := Lib.hid h7.back
          clear hr7 hk7 h7 T6 R6
          obtain ⟨F, hF⟩ := T7.out.foot
          have HF := Lib.hid hF; clear hF
          go_wp2_with fail
          refine (same_any _ p F I' O' HF.out _ _ I' O' R67.out.reads R7.out.reads).mono ?_
          rintro e w8 ⟨rfl, hk8⟩
          rw [sameB_self]
          have T8 := Lib.hid (T7.out.kept hk8).turn
          clear hk8 HF T7
          go_wp2_with fail
          refine (out_three w1 _ q p r I' [] I' O' [] O' T8.out).mono ?_
          rintro e w9 ⟨v9, rfl, hr9, hk9, h9⟩
          obtain ⟨A9, c9, rfl⟩ := hr9.shape
          have T9 := Lib.hid h9.turn.roll
          clear hr9 hk9 h9 T8
          go_wp2_with fail
          refine (in_three w1 _ r p q [] O' I' O' I' [] T9.out).mono ?_
          rintro e w10 ⟨v10, rfl, hr10, hk10, h10⟩
          obtain ⟨A10, c10, rfl⟩ := hr10.shape
          have T10 := Lib.hid h10
          clear hr10 hk10 h10 T9
          go_wp2
          go_ret
          exact ⟨rfl, K1.out.fresh T10.out.keeps⟩

end Go.Proofs.Ytadmmpfjdnfefaa
