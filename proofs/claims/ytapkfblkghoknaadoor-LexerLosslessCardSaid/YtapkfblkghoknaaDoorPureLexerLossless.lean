/-
  Plain Lean: the tokens' texts, joined, are the text; each begins where the one ahead of it ends.
-/
import Derived.Test.YtapkfblkghoknaaDoorPure0
import Derived.Test.YtapkfblkghoknaaDoorPX23
namespace Go.Proofs.YtapkfblkghoknaaDoor.PX
open Go.RowKit Go.Proofs.YtapkfblkghoknaaDoorW.PrintWords Go.Proofs.YtapkfblkghoknaaDoorW.PrintLast Go.Proofs.YtapkfblkghoknaaDoorW.PrintMore

theorem joinB_toks (L : List Tk) : joinB (L.map s33) = joinL L := by
  unfold joinB joinL
  rw [List.flatMap_map]
  rfl
theorem join_toks (L : List Tk) (h : (joinL L).length ≤ 140737488355328) : lexer_Join.f (L.map s33) = some (bstr (joinL L)) := by
  unfold lexer_Join.f
  rw [joinB_toks, if_pos h]
  rfl
theorem join_snoc (L : List Tk) (i : Nat) (t : Tk) (ht : L[i]? = some t) : joinL (L.take (i + 1)) = joinL (L.take i) ++ t.text := by
  obtain ⟨h1, rfl⟩ := List.getElem?_eq_some_iff.1 ht
  unfold joinL
  rw [List.take_succ_eq_append_getElem h1, List.flatMap_append, List.flatMap_cons, List.flatMap_nil, List.append_nil]
theorem wrap_nat (n : Nat) (h : n ≤ 65536) : wrap64 (n : Int) = (n : Int) := wrap_of _ (by omega) (by omega)

theorem wrap_add3 (p n : Nat) (h : p + n ≤ 500) : wrap64 ((p : Int) + (n : Int)) = ((p + n : Nat) : Int) := by rw [wrap_of _ (by omega) (by omega)]; omega
theorem lossless_loop (a : ByteArray) (hb : a.size ≤ 500) (hn : (lexGo a.data.toList 0).2 = none) (d : Nat) : ∀ (k i : Nat), i + d = (lexGo a.data.toList 0).1.length → d < k →
    backsteplaw02_LexerLossless.l0 k a ((lexGo a.data.toList 0).1.map s33) ((joinL ((lexGo a.data.toList 0).1.take i)).length : Int) (i : Int) = some true := by
  have hjn := lexGo_join a.data.toList 0 hn
  have hpl := lexGo_places a.data.toList 0
  have hll := lexGo_len a.data.toList 0
  have hsz := size_list a
  obtain ⟨L, hL⟩ : ∃ L, L = (lexGo a.data.toList 0).1 := ⟨_, rfl⟩
  rw [← hL] at hjn hll ⊢
  induction d with
  | zero =>
    intro k i hi hk
    obtain ⟨k, rfl⟩ : ∃ m, k = m + 1 := ⟨k - 1, by omega⟩
    obtain rfl : i = L.length := by omega
    simp only [backsteplaw02_LexerLossless.l0]
    rw [if_neg (by rw [List.length_map]; omega), List.take_length, if_pos (by rw [hjn, hsz]), join_toks L (by rw [hjn]; omega)]
    simp only [Option.bind_some]
    rw [bstr_toList, Lib.toList_data, hjn, beq_self_eq_true]
  | succ d ih =>
    intro k i hi hk
    obtain ⟨k, rfl⟩ : ∃ m, k = m + 1 := ⟨k - 1, by omega⟩
    have hlt : i < L.length := by omega
    have hg : L[i]? = some L[i] := List.getElem?_eq_getElem hlt
    have hih := ih k (i + 1) (by omega) (by omega)
    generalize L[i] = t at hg
    obtain ⟨q1, q2, q3, q4, _⟩ := hpl i t (by rw [← hL]; exact hg)
    rw [← hL] at q1 q3 q4
    rw [join_snoc L i t hg, List.length_append] at hih
    generalize (joinL (L.take i)).length = j at q1 q3 q4 hih ⊢
    rw [hsz] at q4
    have hts : ((s33 t).f1).size = t.text.length := bstr_size _
    have htl : ((s33 t).f1).toList = t.text := bstr_toList _
    have hf2 : (s33 t).f2 = (t.pos : Int) := rfl
    have hw : wrap64 ((j : Int) + (((s33 t).f1).size : Int)) = ((j + t.text.length : Nat) : Int) := by rw [hts]; exact wrap_add3 j _ (Nat.le_trans q4 hb)
    have c1 : (t.pos : Int) = (j : Int) := by rw [q1, Nat.zero_add]
    have c2 : ¬ (((j + t.text.length : Nat) : Int) > (a.size : Int)) := Int.not_lt.2 (Int.ofNat_le.2 q4)
    have c3 : (0 : Int) ≤ (j : Int) := Int.natCast_nonneg j
    have c4 : (j : Int) ≤ ((j + t.text.length : Nat) : Int) := Int.ofNat_le.2 (Nat.le_add_right _ _)
    have c5 : ((j + t.text.length : Nat) : Int) ≤ (a.size : Int) := Int.ofNat_le.2 q4
    have c6 : (i : Int) < ((L.map s33).length : Int) := by rw [List.length_map]; exact Int.ofNat_lt.2 hlt
    have c7 : (0 : Int) ≤ (i : Int) := Int.natCast_nonneg i
    have hwi : wrap64 ((i : Int) + 1) = ((i + 1 : Nat) : Int) := wrap_next i (Nat.lt_of_lt_of_le hlt (Nat.le_trans hll (Nat.le_trans (Nat.le_of_eq hsz) (Nat.le_trans hb (by decide)))))
    have hex : (a.extract (j : Int).toNat (((j + t.text.length : Nat) : Int)).toNat).toList = t.text := by
      rw [Lib.toList_data, Lib.extract_data, Int.toNat_natCast, Int.toNat_natCast, Nat.add_sub_cancel_left, q3]
    simp only [backsteplaw02_LexerLossless.l0]
    rw [if_pos c6, if_pos c7, rd33_get L i t hg, hf2, if_pos c1, htl, if_neg q2, hw, if_neg c2, if_pos c3, if_pos c4, if_pos c5, hex, if_pos rfl, hwi]
    exact hih

theorem PLexerLossless (a0 : ByteArray) : ∃ k, backsteplaw02_LexerLossless.f k a0 = some true := by
  refine ⟨(lexGo a0.data.toList 0).1.length + 1, ?_⟩
  unfold backsteplaw02_LexerLossless.f
  rw [awake_true]
  simp only [Option.bind_some, if_true]
  by_cases h : (a0.size : Int) > 500
  · rw [if_pos h]
  rw [if_neg h]
  have hl : a0.data.toList.length ≤ 500 := by rw [size_list]; omega
  cases e : (lexGo a0.data.toList 0).2 with
  | some q =>
    rw [lex_some (lexR_bad (by omega) e)]
    simp only [Option.bind_some]
    rw [if_neg (by decide)]
    rfl
  | none =>
    rw [lex_some (lexR_ok (by omega) e)]
    simp only [Option.bind_some]
    rw [if_pos (by decide)]
    have hh := lossless_loop a0 (by omega) e (lexGo a0.data.toList 0).1.length ((lexGo a0.data.toList 0).1.length + 1) 0 (by omega) (by omega)
    exact hh

end Go.Proofs.YtapkfblkghoknaaDoor.PX
