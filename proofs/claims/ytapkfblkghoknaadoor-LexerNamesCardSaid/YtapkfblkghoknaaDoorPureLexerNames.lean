/-
  Plain Lean: Name and Keyword are the reference's; a name is a single word.
-/
import Derived.Test.YtapkfblkghoknaaDoorPureKind
import Derived.Test.YtapkfblkghoknaaDoorPX21
namespace Go.Proofs.YtapkfblkghoknaaDoor.PX
open Go.RowKit Go.Proofs.YtapkfblkghoknaaDoorW.PrintWords Go.Proofs.YtapkfblkghoknaaDoorW.PrintLast Go.Proofs.YtapkfblkghoknaaDoorW.PrintMore

theorem kws_of : backstepref02_Keywords.f = some (kwL.map bstr) := rfl
theorem lexR_word (l : Bs) (hl : l.length ≤ 65536) (hne : l ≠ []) (h : nextL l = (1, l.length)) : lexR l = ([⟨1, l, 0⟩], 0, 0) := by
  have hp : l.length ≠ 0 := fun e => hne (List.length_eq_zero_iff.1 e)
  have e : lexGo l 0 = ([⟨1, l, 0⟩], none) := by
    rw [lexGo_ok 0 hne (by rw [h]; exact hp), h]
    simp only
    rw [List.drop_of_length_le (Nat.le_refl _), lexGo_nil, List.take_of_length_le (Nat.le_refl _)]
  rw [lexR_ok hl (by rw [e]), e]
theorem name_kind (l : Bs) : nameB l = (decide (kindL l = 1) && decide (l.length ≤ 16) && !decide (l ∈ kwL)) := by
  by_cases hne : l = []
  · subst hne; rfl
  have hp : l.length ≠ 0 := fun e => hne (List.length_eq_zero_iff.1 e)
  have hw := name_word l hne
  unfold nameB
  rw [decide_eq_true hp, Bool.true_and]
  by_cases hk : kindL l = 1
  · have h := hw.2 hk
    rw [decide_eq_true hk, h]
    simp
  · have h : ¬ ((nextL l).1 = 1 ∧ (nextL l).2 = l.length) := fun h => hk (hw.1 (Prod.ext h.1 h.2))
    rw [decide_eq_false hk]
    by_cases h1 : (nextL l).1 = 1
    · have h2 : ¬ (nextL l).2 = l.length := fun h2 => h ⟨h1, h2⟩
      simp [h2]
    · simp [h1]

theorem ref_name_of (a : ByteArray) (h : a.size ≤ 60) : backstepref02_Name.f 200 a = some (nameB a.data.toList) := by
  have hsz := size_list a
  unfold backstepref02_Name.f
  rw [kind_of a (by omega) 200 (by omega), name_kind]
  simp only [Option.bind_some]
  by_cases hk : kindL a.data.toList = 1
  · rw [if_pos (by omega), decide_eq_true hk]
    by_cases h16 : a.size ≤ 16
    · rw [if_pos (by omega), kws_of, hsz, decide_eq_true h16]
      simp only [Option.bind_some]
      rw [in_of kwL a (by decide) 200 (by decide)]
      rfl
    · rw [if_neg (by omega), hsz, decide_eq_false h16]
      simp
  · rw [if_neg (by omega), decide_eq_false hk]
    simp

theorem PLexerNames (a0 : ByteArray) : ∃ k, backsteplaw02_LexerNames.f k a0 = some true := by
  refine ⟨200, ?_⟩
  unfold backsteplaw02_LexerNames.f
  rw [awake_true]
  simp only [Option.bind_some, if_true]
  by_cases h : (a0.size : Int) > 60
  · rw [if_pos h]
  rw [if_neg h]
  have hsz := size_list a0
  have hK : lexer_Keyword.f a0 = some (decide (a0.data.toList ∈ kwL)) := by unfold lexer_Keyword.f; rw [if_pos (by omega)]
  have hN : lexer_Name.f a0 = some (nameB a0.data.toList) := rfl
  rw [hN, hK, ref_name_of a0 (by omega), kws_of]
  simp only [Option.bind_some]
  rw [if_neg (by simp), in_of kwL a0 (by decide) 200 (by decide)]
  simp only [Option.bind_some]
  rw [if_neg (by simp)]
  have word : ∀ l : Bs, l ≠ [] → l.length ≤ 60 → l = a0.data.toList → nextL l = (1, l.length) → lexer_Lex.f a0 = some ([⟨1, l, 0⟩].map s33, 0, 0) := by
    intro l h1 h2 h3 h4
    subst h3
    exact lex_some (lexR_word _ (by omega) h1 h4)
  by_cases hn : nameB a0.data.toList = true
  · have hnk : decide (a0.data.toList ∈ kwL) = false := by
      rw [name_kind] at hn
      cases hd : decide (a0.data.toList ∈ kwL)
      · rfl
      · rw [hd] at hn; simp at hn
    have hl : lexer_Lex.f a0 = some ([⟨1, a0.data.toList, 0⟩].map s33, 0, 0) := by
      have hne : a0.data.toList ≠ [] := fun e => by rw [e] at hn; exact absurd hn (by decide)
      have hk : kindL a0.data.toList = 1 := by
        rw [name_kind] at hn
        simp only [Bool.and_eq_true, decide_eq_true_eq] at hn
        exact hn.1.1
      exact word _ hne (by omega) rfl ((name_word _ hne).2 hk)
    rw [hn, hnk]
    simp only [if_true, backsteplaw02_LexerNames.j0]
    rw [hN, hn, hl]
    rfl
  · have hn' : nameB a0.data.toList = false := by simpa using hn
    rw [hn']
    simp only [backsteplaw02_LexerNames.j0]
    rw [hN, hn', hK]
    by_cases hkw : a0.data.toList ∈ kwL
    · obtain ⟨h1, h2⟩ := kw_word _ hkw
      rw [decide_eq_true hkw, word _ h2 (by omega) rfl h1]
      rfl
    · rw [decide_eq_false hkw]
      rfl

end Go.Proofs.YtapkfblkghoknaaDoor.PX
