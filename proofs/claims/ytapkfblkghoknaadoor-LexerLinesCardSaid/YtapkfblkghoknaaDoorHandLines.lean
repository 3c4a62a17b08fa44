/-
  The law LexerLines, walked by hand: over the contracts of Lex and Solid every comparison of the law's loop is decided ahead.
-/
import Derived.Test.YtapkfblkghoknaaDoorPureLexerSolid
import Derived.Test.YtapkfblkghoknaaDoorPX3
namespace Go.Proofs.YtapkfblkghoknaaDoor.PX
open Go.RowKit Go.Proofs.YtapkfblkghoknaaDoorW.PrintWords Go.Proofs.YtapkfblkghoknaaDoorW.PrintLast Go.Proofs.YtapkfblkghoknaaDoorW.PrintMore

theorem filter_s33 (l : List Tk) : (l.map s33).filter solidS = (l.filter solidT).map s33 := by
  rw [List.filter_map]
  congr 1
  apply List.filter_congr
  intro t _
  show solidS (s33 t) = solidT t
  unfold solidS solidT s33
  simp only [bne]
  congr 2
  · rw [Bool.eq_iff_iff, beq_iff_eq, beq_iff_eq]; omega
  · rw [Bool.eq_iff_iff, beq_iff_eq, beq_iff_eq]; omega
theorem solid_s33 (l : List Tk) (hb : l.length < 65536) : lexer_Solid.f 65536 (l.map s33) = some ((l.filter solidT).map s33) := by
  rw [solid_of _ (by rw [List.length_map]; omega) _ (by rw [List.length_map]; omega), filter_s33]
theorem rd33_lt (l : List Tk) (i : Nat) (h : i < l.length) : rd_T33 (l.map s33) (i : Int) = s33 l[i] := rd33 l i h

/-- What the loop finds at i: a token of the first text, or one of the second, moved. -/
theorem seam (U V Z : List Tk) (d i : Nat) (hz : Z = U ++ V.map (shift d)) (hi : i < Z.length) :
    (i < U.length ∧ rd_T33 (Z.map s33) (i : Int) = rd_T33 (U.map s33) (i : Int)) ∨
    (U.length ≤ i ∧ i - U.length < V.length ∧ (rd_T33 (Z.map s33) (i : Int)).f0 = (rd_T33 (V.map s33) ((i - U.length : Nat) : Int)).f0 ∧ (rd_T33 (Z.map s33) (i : Int)).f1 = (rd_T33 (V.map s33) ((i - U.length : Nat) : Int)).f1 ∧
      (rd_T33 (Z.map s33) (i : Int)).f2 = (rd_T33 (V.map s33) ((i - U.length : Nat) : Int)).f2 + (d : Int)) := by
  by_cases h : i < U.length
  · left
    refine ⟨h, ?_⟩
    rw [rd33_get Z i U[i] (by rw [hz, List.getElem?_append_left h, List.getElem?_eq_getElem h]), rd33_lt U i h]
  · right
    have hv : i - U.length < V.length := by rw [hz] at hi; simp at hi; omega
    refine ⟨by omega, hv, ?_⟩
    rw [rd33_get Z i (shift d V[i - U.length]) (by rw [hz, List.getElem?_append_right (by omega), List.getElem?_map, List.getElem?_eq_getElem hv]; rfl), rd33_lt V _ hv]
    exact ⟨rfl, rfl, by simp [s33, shift]⟩

theorem lines_big (a b : ByteArray) (w : World) (ht : Tab w) (h : 200 < a.size ∨ 200 < b.size) : Calls Tryd.prog 7 #[.string a, .string b] w fun e w' => e = .returned (.bool true) ∧ Below w.heap.size w w' := by
  have HT := Aside0.mk ht; clear ht
  by_cases ha : 200 < a.size
  · have h1 : (200 : Int) < (a.size : Int) := by omega
    clear h ha
    go_enter Tryd.func7, Tryd.ntmps7
    go_wp2_with (fail)
    refine (backsteplaw02_awake.calls true w HT.out awake_true).mono ?_
    rintro e w1 ⟨rfl, hb1⟩
    have HB1 := Aside0.mk hb1; clear hb1
    go_wp2
    go_ret
    exact ⟨rfl, HB1.out⟩
  · have h1 : decide ((200 : Int) < (a.size : Int)) = false := by rw [decide_eq_false_iff_not]; omega
    have h2 : (200 : Int) < (b.size : Int) := by omega
    clear h ha
    go_enter Tryd.func7, Tryd.ntmps7
    go_wp2_with (fail)
    refine (backsteplaw02_awake.calls true w HT.out awake_true).mono ?_
    rintro e w1 ⟨rfl, hb1⟩
    have HB1 := Aside0.mk hb1; clear hb1
    go_wp2
    go_ret
    exact ⟨rfl, HB1.out⟩

theorem lex_of {s : ByteArray} {T : List Tk} {p q : Nat} (h : lexR s.data.toList = (T, p, q)) : lexer_Lex.f s = some (T.map s33, (p : Int), (q : Int)) := lex_some h

set_option maxHeartbeats 1000000 in
set_option maxRecDepth 100000 in
theorem lines_bad1 (a b : ByteArray) (w : World) (ht : Tab w) (ha : a.size ≤ 200) (hb : b.size ≤ 200) (T : List Tk) (p q r : Nat) (h1 : lexR a.data.toList = ([], p, 3)) (h2 : lexR b.data.toList = (T, q, r))
    (z0 : ByteArray) (hz0 : z0 = a ++ (⟨#[10]⟩ : ByteArray) ++ b) (h3 : lexR z0.data.toList = ([], p, 3)) : Calls Tryd.prog 7 #[.string a, .string b] w fun e w' => e = .returned (.bool true) ∧ Below w.heap.size w w' := by
  have HT := Aside0.mk ht; clear ht
  have HZ0 := Aside0.mk hz0; clear hz0
  have H1 := Aside0.mk (lex_of h1); clear h1
  have H2 := Aside0.mk (lex_of h2); clear h2
  have H3 := Aside0.mk (lex_of h3); clear h3
  have ha' : decide ((200 : Int) < (a.size : Int)) = false := by rw [decide_eq_false_iff_not]; omega
  have hb' : decide ((200 : Int) < (b.size : Int)) = false := by rw [decide_eq_false_iff_not]; omega
  have sm1 : (9223372036854775807 < a.size + 1) = False := eq_false (by omega)
  have sm2 : (9223372036854775807 < a.size + 1 + b.size) = False := eq_false (by omega)
  clear ha hb
  go_enter Tryd.func7, Tryd.ntmps7
  go_wp2_with (fail)
  refine (backsteplaw02_awake.calls true w HT.out awake_true).mono ?_
  rintro e w1 ⟨rfl, hb1⟩
  have HB1 := Aside0.mk hb1; clear hb1
  go_wp2_with (fail)
  refine (lexer_Lex.calls a _ _ _ w1 (Tab.below HT.out HB1.out) H1.out).mono ?_
  rintro e w2 ⟨v1, rfl, hr1, hb2⟩
  have HB2 := Aside0.mk (HB1.out.trans (hb2.mono HB1.out.size)); clear hb2 hr1
  go_wp2_with (fail)
  refine (lexer_Lex.calls b _ _ _ w2 (Tab.below HT.out HB2.out) H2.out).mono ?_
  rintro e w3 ⟨v2, rfl, hr2, hb3⟩
  have HB3 := Aside0.mk (HB2.out.trans (hb3.mono HB2.out.size)); clear hb3 hr2
  go_wp2_with (fail)
  rw [← HZ0.out]
  refine (lexer_Lex.calls z0 _ _ _ w3 (Tab.below HT.out HB3.out) H3.out).mono ?_
  rintro e w4 ⟨v3, rfl, hr3, hb4⟩
  have HB4 := Aside0.mk (HB3.out.trans (hb4.mono HB3.out.size)); clear hb4
  obtain ⟨A3, c3, rfl, _, _⟩ := Kd.R_reads hr3
  clear hr3
  go_wp2
  go_ret
  exact ⟨rfl, HB4.out⟩

set_option maxHeartbeats 1000000 in
set_option maxRecDepth 100000 in
theorem lines_bad2 (a b : ByteArray) (w : World) (ht : Tab w) (ha : a.size ≤ 200) (hb : b.size ≤ 200) (T : List Tk) (q : Nat) (h1 : lexR a.data.toList = (T, 0, 0)) (h2 : lexR b.data.toList = ([], q, 3)) (hq : q ≤ 200)
    (z0 : ByteArray) (hz0 : z0 = a ++ (⟨#[10]⟩ : ByteArray) ++ b) (h3 : lexR z0.data.toList = ([], a.size + 1 + q, 3)) : Calls Tryd.prog 7 #[.string a, .string b] w fun e w' => e = .returned (.bool true) ∧ Below w.heap.size w w' := by
  have HT := Aside0.mk ht; clear ht
  have HZ0 := Aside0.mk hz0; clear hz0
  have H1 := Aside0.mk (lex_of h1); clear h1
  have H2 := Aside0.mk (lex_of h2); clear h2
  have H3 := Aside0.mk (lex_of h3); clear h3
  have ha' : decide ((200 : Int) < (a.size : Int)) = false := by rw [decide_eq_false_iff_not]; omega
  have hb' : decide ((200 : Int) < (b.size : Int)) = false := by rw [decide_eq_false_iff_not]; omega
  have sm1 : (9223372036854775807 < a.size + 1) = False := eq_false (by omega)
  have sm2 : (9223372036854775807 < a.size + 1 + b.size) = False := eq_false (by omega)
  have a0 : 0 ≤ (a.size : Int) := by omega
  have a1 : (a.size : Int) ≤ 200 := by omega
  have q0 : 0 ≤ (q : Int) := by omega
  have q1 : (q : Int) ≤ 200 := by omega
  have ez : (((a.size + 1 + q : Nat) : Int) == (a.size : Int) + 1 + (q : Int)) = true := by rw [beq_iff_eq]; omega
  obtain ⟨at0, hat⟩ : ∃ at0 : Int, at0 = ((a.size + 1 + q : Nat) : Int) := ⟨_, rfl⟩
  rw [← hat] at ez H3
  clear ha hb hat hq
  go_enter Tryd.func7, Tryd.ntmps7
  go_wp2_with (fail)
  refine (backsteplaw02_awake.calls true w HT.out awake_true).mono ?_
  rintro e w1 ⟨rfl, hb1⟩
  have HB1 := Aside0.mk hb1; clear hb1
  go_wp2_with (fail)
  refine (lexer_Lex.calls a _ _ _ w1 (Tab.below HT.out HB1.out) H1.out).mono ?_
  rintro e w2 ⟨v1, rfl, hr1, hb2⟩
  have HB2 := Aside0.mk (HB1.out.trans (hb2.mono HB1.out.size)); clear hb2 hr1
  go_wp2_with (fail)
  refine (lexer_Lex.calls b _ _ _ w2 (Tab.below HT.out HB2.out) H2.out).mono ?_
  rintro e w3 ⟨v2, rfl, hr2, hb3⟩
  have HB3 := Aside0.mk (HB2.out.trans (hb3.mono HB2.out.size)); clear hb3 hr2
  go_wp2_with (fail)
  rw [← HZ0.out]
  refine (lexer_Lex.calls z0 [] at0 3 w3 (Tab.below HT.out HB3.out) H3.out).mono ?_
  rintro e w4 ⟨v3, rfl, hr3, hb4⟩
  have HB4 := Aside0.mk (HB3.out.trans (hb4.mono HB3.out.size)); clear hb4
  obtain ⟨A3, c3, rfl, _, _⟩ := Kd.R_reads hr3
  clear hr3
  go_wp2
  go_ret
  exact ⟨rfl, HB4.out⟩

end Go.Proofs.YtapkfblkghoknaaDoor.PX
