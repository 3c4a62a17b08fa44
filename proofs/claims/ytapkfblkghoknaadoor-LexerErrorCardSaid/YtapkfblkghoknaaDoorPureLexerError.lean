/-
  Plain Lean: what lies ahead of the reported offset is tokens; none begins there.
-/
import Derived.Test.YtapkfblkghoknaaDoorPure0
import Derived.Test.YtapkfblkghoknaaDoorPX24
namespace Go.Proofs.YtapkfblkghoknaaDoor.PX
open Go.RowKit Go.Proofs.YtapkfblkghoknaaDoorW.PrintWords Go.Proofs.YtapkfblkghoknaaDoorW.PrintLast Go.Proofs.YtapkfblkghoknaaDoorW.PrintMore

theorem joinB_toks' (L : List Tk) : joinB (L.map s33) = joinL L := by
  unfold joinB joinL
  rw [List.flatMap_map]
  rfl
theorem join_toks' (L : List Tk) (h : (joinL L).length ≤ 140737488355328) : lexer_Join.f (L.map s33) = some (bstr (joinL L)) := by
  unfold lexer_Join.f
  rw [joinB_toks', if_pos h]
  rfl

theorem PLexerError (a0 : ByteArray) : ∃ k, backsteplaw02_LexerError.f k a0 = some true := by
  refine ⟨1, ?_⟩
  unfold backsteplaw02_LexerError.f
  rw [awake_true]
  simp only [Option.bind_some, if_true]
  by_cases h : (a0.size : Int) > 200
  · rw [if_pos h]
  rw [if_neg h]
  have hsz := size_list a0
  have hl : a0.data.toList.length ≤ 200 := by omega
  cases e : (lexGo a0.data.toList 0).2 with
  | none =>
    rw [lex_some (lexR_ok (by omega) e)]
    simp only [Option.bind_some]
    rw [if_pos (by decide)]
    rfl
  | some q =>
    obtain ⟨k, hk, hkl, hj, hn⟩ := lexGo_err a0.data.toList 0 q e
    obtain rfl : k = q := by omega
    have ht := lexGo_take a0.data.toList 0 k e
    rw [Nat.sub_zero] at ht
    have hd : (lexGo (a0.data.toList.drop k) 0).2 = some 0 := by
      rw [lexGo_bad 0 (fun e2 => by have := congrArg List.length e2; rw [List.length_drop] at this; simp at this; omega) hn]
    rw [lex_some (lexR_bad (by omega) e)]
    simp only [Option.bind_some]
    rw [if_neg (by decide), if_pos (by decide), if_neg (by omega)]
    simp only [backsteplaw02_LexerError.j0]
    rw [if_neg (by rw [decide_eq_true_eq]; omega), if_pos (by omega), if_pos (by omega)]
    have x1 : (a0.extract 0 (k : Int).toNat).data.toList = a0.data.toList.take k := by
      rw [Lib.extract_data, Int.toNat_natCast, List.drop_zero, Nat.sub_zero]
    have x2 : (a0.extract (k : Int).toNat a0.size).data.toList = a0.data.toList.drop k := by
      rw [Lib.extract_data, Int.toNat_natCast, List.take_of_length_le (by rw [List.length_drop]; omega)]
    have r1 : lexR (a0.extract 0 (k : Int).toNat).data.toList = ((lexGo a0.data.toList 0).1, 0, 0) := by
      rw [x1, lexR_ok (by rw [List.length_take]; omega) (by rw [ht]), ht]
    have r2 : lexR (a0.extract (k : Int).toNat a0.size).data.toList = ([], 0, 3) := by
      rw [x2, lexR_bad (by rw [List.length_drop]; omega) hd]
    rw [lex_some r1, lex_some r2]
    simp only [Option.bind_some]
    rw [if_pos (by decide), join_toks' _ (by rw [hj, List.length_take]; omega)]
    simp only [Option.bind_some]
    rw [bstr_toList, Lib.toList_data, x1, hj, if_pos rfl, if_pos (by decide)]
    rfl

end Go.Proofs.YtapkfblkghoknaaDoor.PX
