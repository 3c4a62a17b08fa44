/-
  Plain Lean: Solid keeps what is neither space nor comment; Join concatenates.
-/
import Derived.Test.YtapkfblkghoknaaDoorPure0
import Derived.Test.YtapkfblkghoknaaDoorPX25
import Derived.Test.YtapkfblkghoknaaDoorArgs
namespace Go.Proofs.YtapkfblkghoknaaDoor.PX
open Go.RowKit Go.Proofs.YtapkfblkghoknaaDoorW.PrintWords Go.Proofs.YtapkfblkghoknaaDoorW.PrintLast Go.Proofs.YtapkfblkghoknaaDoorW.PrintMore

def solidS (t : S33) : Bool := !(t.f0 == 4) && !(t.f0 == 5)
theorem rd33_in (l : List S33) (i : Nat) (t : S33) (h : l[i]? = some t) : rd_T33 l (i : Int) = t := by
  unfold rd_T33
  rw [Int.toNat_natCast, List.getD_eq_getElem?_getD, h]
  rfl
theorem take_snoc {α : Type} (l : List α) (i : Nat) (t : α) (h : l[i]? = some t) : l.take (i + 1) = l.take i ++ [t] := by
  obtain ⟨h1, rfl⟩ := List.getElem?_eq_some_iff.1 h
  exact List.take_succ_eq_append_getElem h1
theorem joinB_snoc (l : List S33) (i : Nat) (t : S33) (h : l[i]? = some t) : joinB (l.take (i + 1)) = joinB (l.take i) ++ t.f1.data.toList := by
  rw [take_snoc l i t h]
  unfold joinB
  rw [List.flatMap_append, List.flatMap_cons, List.flatMap_nil, List.append_nil]
theorem filter_snoc (l : List S33) (i : Nat) (t : S33) (h : l[i]? = some t) : (l.take (i + 1)).filter solidS = (l.take i).filter solidS ++ (if solidS t then [t] else []) := by
  rw [take_snoc l i t h, List.filter_append]
  congr 1
  by_cases hs : solidS t = true
  · rw [if_pos hs, List.filter_cons_of_pos hs, List.filter_nil]
  · rw [if_neg hs, List.filter_cons_of_neg hs, List.filter_nil]

theorem solid_loop (l : List S33) (hb : l.length < 4398046511104) (d : Nat) : ∀ (k i : Nat), i + d = l.length → d < k → lexer_Solid.l0 k ((l.take i).filter solidS) l (l.length : Int) (i : Int) = some (l.filter solidS) := by
  induction d with
  | zero =>
    intro k i hi hk
    obtain ⟨k, rfl⟩ : ∃ m, k = m + 1 := ⟨k - 1, by omega⟩
    simp only [lexer_Solid.l0]
    rw [if_neg (by omega), List.take_of_length_le (by omega)]
  | succ d ih =>
    intro k i hi hk
    obtain ⟨k, rfl⟩ : ∃ m, k = m + 1 := ⟨k - 1, by omega⟩
    have hg : l[i]? = some l[i] := List.getElem?_eq_getElem (by omega)
    have hih := ih k (i + 1) (by omega) (by omega)
    generalize l[i] = t at hg
    rw [filter_snoc l i t hg] at hih
    have hfl : ((l.take i).filter solidS).length < 4398046511104 := by
      have h1 := List.length_filter_le solidS (l.take i)
      rw [List.length_take] at h1
      omega
    simp only [lexer_Solid.l0]
    rw [if_pos (by omega), if_pos (by omega), if_pos (by omega), rd33_in l i t hg, wrap_next i (by omega)]
    by_cases h4 : t.f0 = 4
    · rw [if_pos h4]
      have : solidS t = false := by unfold solidS; rw [h4]; rfl
      rw [this] at hih
      simpa using hih
    · rw [if_neg h4]
      by_cases h5 : t.f0 = 5
      · rw [if_pos h5]
        have : solidS t = false := by unfold solidS; rw [h5]; rfl
        rw [this] at hih
        simpa using hih
      · rw [if_neg h5, if_pos hfl]
        have : solidS t = true := by unfold solidS; rw [beq_eq_false_iff_ne.2 h4, beq_eq_false_iff_ne.2 h5]; rfl
        rw [this] at hih
        exact hih
theorem solid_of (l : List S33) (hb : l.length < 4398046511104) (k : Nat) (hk : l.length < k) : lexer_Solid.f k l = some (l.filter solidS) :=
  solid_loop l hb l.length k 0 (by omega) hk

/-- The second loop: each token that Solid gave is the one that was kept; it is then written over. -/
theorem check_loop (l K : List S33) (want : ByteArray) (hw : want.data.toList = joinB l) (hj : lexer_Join.f l = some ⟨(joinB l).toArray⟩) (hb : K.length < 9223372036854775807) (d : Nat) :
    ∀ (k i : Nat) (M : List S33), i + d = K.length → d < k → M.length = K.length → (∀ j, i ≤ j → M[j]? = K[j]?) → backsteplaw02_LexerSolid.l1 k l want K M (i : Int) = some true := by
  induction d with
  | zero =>
    intro k i M hi hk hM hR
    obtain ⟨k, rfl⟩ : ∃ m, k = m + 1 := ⟨k - 1, by omega⟩
    simp only [backsteplaw02_LexerSolid.l1]
    rw [if_neg (by omega), hj]
    simp only [Option.bind_some]
    rw [Lib.toList_data, Lib.toList_data, hw, beq_self_eq_true]
  | succ d ih =>
    intro k i M hi hk hM hR
    obtain ⟨k, rfl⟩ : ∃ m, k = m + 1 := ⟨k - 1, by omega⟩
    have hg : K[i]? = some K[i] := List.getElem?_eq_getElem (by omega)
    generalize K[i] = t at hg
    have hm : M[i]? = some t := (hR i (Nat.le_refl _)).trans hg
    simp only [backsteplaw02_LexerSolid.l1]
    rw [if_pos (by omega), if_pos (by omega), if_pos (by omega), rd33_in K i t hg, rd33_in M i t hm, wrap_next i (by omega), Int.toNat_natCast]
    rw [if_neg (by simp)]
    exact ih k (i + 1) _ (by omega) (by omega) (by rw [List.length_set]; exact hM) (fun j hj2 => by rw [List.getElem?_set_ne (by omega)]; exact hR j (by omega))

theorem main_loop (l : List S33) (hb : l.length ≤ 60) (d : Nat) : ∀ (k i : Nat) (want : ByteArray), i + d = l.length → d + 200 < k → want.data.toList = joinB (l.take i) → want.size ≤ 40 * i →
    backsteplaw02_LexerSolid.l0 k l want ((l.take i).filter solidS) (i : Int) = some true := by
  induction d with
  | zero =>
    intro k i want hi hk hw hs
    obtain ⟨k, rfl⟩ : ∃ m, k = m + 1 := ⟨k - 1, by omega⟩
    simp only [backsteplaw02_LexerSolid.l0]
    rw [List.take_of_length_le (by omega)] at hw ⊢
    have hjl : (joinB l).length ≤ 2400 := by rw [← hw, size_list]; omega
    have hj : lexer_Join.f l = some ⟨(joinB l).toArray⟩ := by unfold lexer_Join.f; rw [if_pos (by omega)]
    have hfl : (l.filter solidS).length ≤ l.length := List.length_filter_le _ _
    rw [if_neg (by omega), solid_of l (by omega) k (by omega)]
    simp only [Option.bind_some]
    rw [if_pos trivial, hj]
    simp only [Option.bind_some]
    obtain ⟨k, rfl⟩ : ∃ m, k = m + 1 := ⟨k - 1, by omega⟩
    simp only [backsteplaw02_LexerSolid.j1]
    rw [if_neg (by rw [Lib.toList_data, Lib.toList_data, hw]; simp)]
    exact check_loop l _ want hw hj (by omega) (l.filter solidS).length k 0 _ (by omega) (by omega) rfl (fun _ _ => rfl)
  | succ d ih =>
    intro k i want hi hk hw hs
    obtain ⟨k, rfl⟩ : ∃ m, k = m + 1 := ⟨k - 1, by omega⟩
    have hg : l[i]? = some l[i] := List.getElem?_eq_getElem (by omega)
    generalize l[i] = t at hg
    have hfl : ((l.take i).filter solidS).length < 4398046511104 := by
      have h1 := List.length_filter_le solidS (l.take i)
      rw [List.length_take] at h1
      omega
    simp only [backsteplaw02_LexerSolid.l0]
    rw [if_pos (by omega), if_pos (by omega), rd33_in l i t hg]
    by_cases h40 : (t.f1.size : Int) > 40
    · rw [if_pos h40]
    rw [if_neg h40, if_pos (by omega), wrap_next i (by omega)]
    have hsz : (want ++ t.f1).size = want.size + t.f1.size := ByteArray.size_append
    have hwl : (want ++ t.f1).data.toList = joinB (l.take (i + 1)) := by
      rw [joinB_snoc l i t hg, ← hw]
      simp
    have hih := ih k (i + 1) (want ++ t.f1) (by omega) (by omega) hwl (by omega)
    rw [filter_snoc l i t hg] at hih
    by_cases h4 : t.f0 = 4
    · rw [if_pos h4]
      have : solidS t = false := by unfold solidS; rw [h4]; rfl
      rw [this] at hih
      simpa using hih
    · rw [if_neg h4]
      by_cases h5 : t.f0 = 5
      · rw [if_pos h5]
        have : solidS t = false := by unfold solidS; rw [h5]; rfl
        rw [this] at hih
        simpa using hih
      · rw [if_neg h5, if_pos hfl]
        have : solidS t = true := by unfold solidS; rw [beq_eq_false_iff_ne.2 h4, beq_eq_false_iff_ne.2 h5]; rfl
        rw [this] at hih
        exact hih

theorem PLexerSolid (l : List S33) : ∃ k, backsteplaw02_LexerSolid.f k l = some true := by
  refine ⟨l.length + 300, ?_⟩
  unfold backsteplaw02_LexerSolid.f
  rw [awake_true]
  simp only [Option.bind_some, if_true]
  by_cases h : (l.length : Int) > 60
  · rw [if_pos h]
  rw [if_neg h]
  exact main_loop l (by omega) l.length (l.length + 300) 0 ⟨#[]⟩ (by omega) (by omega) rfl (by decide)

end Go.Proofs.YtapkfblkghoknaaDoor.PX
