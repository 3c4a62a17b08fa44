/-
  Plain Lean: the text of a token is that token alone, at 0.
-/
import Derived.Test.YtapkfblkghoknaaDoorPure0
import Derived.Test.YtapkfblkghoknaaDoorPX12
namespace Go.Proofs.YtapkfblkghoknaaDoor.PX
open Go.RowKit Go.Proofs.YtapkfblkghoknaaDoorW.PrintWords Go.Proofs.YtapkfblkghoknaaDoorW.PrintLast Go.Proofs.YtapkfblkghoknaaDoorW.PrintMore

theorem lexR_tok (s : Bs) (hs : s.length ≤ 65536) (i : Nat) (t : Tk) (ht : (lexGo s 0).1[i]? = some t) : lexR t.text = ([⟨t.kind, t.text, 0⟩], 0, 0) := by
  obtain ⟨_, _, _, h4, _⟩ := lexGo_places s 0 i t ht
  obtain ⟨u, h1, h2, h3⟩ := lexGo_tok s t 0 (List.mem_of_getElem? ht)
  have h := lexGo_alone u h1
  rw [← h3, ← h2] at h
  rw [lexR_ok (by omega) (by rw [h]), h]

theorem alone_loop (s : Bs) (hs : s.length ≤ 65536) (hb : (lexGo s 0).1.length < 9223372036854775807) (d : Nat) : ∀ (k i : Nat), i + d = (lexGo s 0).1.length → d < k → backsteplaw02_LexerAlone.l0 k ((lexGo s 0).1.map s33) (i : Int) = some true := by
  induction d with
  | zero =>
    intro k i hi hk
    obtain ⟨k, rfl⟩ : ∃ m, k = m + 1 := ⟨k - 1, by omega⟩
    simp only [backsteplaw02_LexerAlone.l0]
    rw [if_neg (by rw [List.length_map]; omega)]
  | succ d ih =>
    intro k i hi hk
    obtain ⟨k, rfl⟩ : ∃ m, k = m + 1 := ⟨k - 1, by omega⟩
    have hlt : i < (lexGo s 0).1.length := by omega
    have hg : (lexGo s 0).1[i]? = some (lexGo s 0).1[i] := List.getElem?_eq_getElem hlt
    have hL := lexR_tok s hs i _ hg
    have hih := ih k (i + 1) (by omega) (by omega)
    generalize (lexGo s 0).1[i] = t at hg hL
    simp only [backsteplaw02_LexerAlone.l0]
    rw [if_pos (by rw [List.length_map]; omega), if_pos (by omega), rd33_get _ i t hg, lex_some (a := (s33 t).f1) hL]
    simp only [Option.bind_some]
    rw [show (0 : Int) = ((0 : Nat) : Int) from rfl, rd33_get [⟨t.kind, t.text, 0⟩] 0 ⟨t.kind, t.text, 0⟩ rfl]
    rw [if_pos rfl, if_pos (by simp), if_pos (by simp), if_pos (by simp [s33]), if_pos (by simp [s33]), if_pos (by simp [s33]), wrap_next i (by omega)]
    exact hih

theorem PLexerAlone (a0 : ByteArray) : ∃ k, backsteplaw02_LexerAlone.f k a0 = some true := by
  refine ⟨(lexGo a0.data.toList 0).1.length + 1, ?_⟩
  unfold backsteplaw02_LexerAlone.f
  rw [awake_true]
  simp only [Option.bind_some, if_true]
  by_cases h : (a0.size : Int) > 200
  · rw [if_pos h]
  · rw [if_neg h]
    have hl : a0.data.toList.length ≤ 200 := by rw [size_list]; omega
    cases e : (lexGo a0.data.toList 0).2 with
    | none =>
      rw [lex_some (lexR_ok (by omega) e)]
      simp only [Option.bind_some]
      rw [if_pos (by decide)]
      have hb : (lexGo a0.data.toList 0).1.length ≤ a0.data.toList.length := lexGo_len _ 0
      exact alone_loop a0.data.toList (by omega) (by omega) (lexGo a0.data.toList 0).1.length _ 0 (by omega) (by omega)
    | some q =>
      rw [lex_some (lexR_bad (by omega) e)]
      simp only [Option.bind_some]
      rw [if_neg (by decide)]

end Go.Proofs.YtapkfblkghoknaaDoor.PX
