/-
  Plain Lean: what stands behind a token's begin has the remaining tokens, shifted.
-/
import Derived.Test.YtapkfblkghoknaaDoorPure0
import Derived.Test.YtapkfblkghoknaaDoorPX13
namespace Go.Proofs.YtapkfblkghoknaaDoor.PX
open Go.RowKit Go.Proofs.YtapkfblkghoknaaDoorW.PrintWords Go.Proofs.YtapkfblkghoknaaDoorW.PrintLast Go.Proofs.YtapkfblkghoknaaDoorW.PrintMore

theorem suffix (s : Bs) (hn : (lexGo s 0).2 = none) (n : Nat) (t : Tk) (ht : (lexGo s 0).1[n]? = some t) :
    t.pos ≤ s.length ∧ (lexGo (s.drop t.pos) 0).2 = none ∧ (lexGo (s.drop t.pos) 0).1.map (shift t.pos) = (lexGo s 0).1.drop n := by
  obtain ⟨h1, _, _, h4, h5⟩ := lexGo_places s 0 n t ht
  have e : (joinL ((lexGo s 0).1.take n)).length = t.pos := by omega
  rw [e] at h4 h5
  have h6 := lexGo_shift (s.drop t.pos) 0 t.pos
  rw [Nat.zero_add] at h6
  rw [h6, hn] at h5
  have h7 := (Prod.mk.inj h5).1
  have h8 := (Prod.mk.inj h5).2
  refine ⟨by omega, ?_, h7⟩
  cases e2 : (lexGo (s.drop t.pos) 0).2 with
  | none => rfl
  | some q => rw [e2] at h8; cases h8

theorem longest_loop (L M : List Tk) (n : Nat) (t : Tk) (ht : L[n]? = some t) (hM : M.map (shift t.pos) = L.drop n) (hb : L.length < 4611686018427387904) (hp : ∀ x ∈ L, x.pos < 4611686018427387904) (d : Nat) :
    ∀ (k i : Nat), i + d = M.length → d < k → backsteplaw02_LexerLongest.l0 k (L.map s33) (n : Int) (M.map s33) (i : Int) = some true := by
  have hnl := (List.getElem?_eq_some_iff.1 ht).1
  have hml : M.length = L.length - n := by have := congrArg List.length hM; simpa using this
  induction d with
  | zero =>
    intro k i hi hk
    obtain ⟨k, rfl⟩ : ∃ m, k = m + 1 := ⟨k - 1, by omega⟩
    simp only [backsteplaw02_LexerLongest.l0]
    rw [if_neg (by rw [List.length_map]; omega)]
  | succ d ih =>
    intro k i hi hk
    obtain ⟨k, rfl⟩ : ∃ m, k = m + 1 := ⟨k - 1, by omega⟩
    have hih := ih k (i + 1) (by omega) (by omega)
    have him : i < M.length := by omega
    have hg : M[i]? = some M[i] := List.getElem?_eq_getElem him
    have hg2 : L[n + i]? = some (shift t.pos M[i]) := by
      have h := congrArg (fun l : List Tk => l[i]?) hM
      simp only [List.getElem?_map, hg, Option.map_some, List.getElem?_drop] at h
      exact h.symm
    generalize M[i] = m at hg hg2
    have hpm := hp _ (List.mem_of_getElem? hg2)
    have hpt := hp _ (List.mem_of_getElem? ht)
    have e0 : wrap64 ((n : Int) + (i : Int)) = ((n + i : Nat) : Int) := by rw [wrap_of _ (by omega) (by omega)]; omega
    simp only [backsteplaw02_LexerLongest.l0]
    rw [if_pos (by rw [List.length_map]; omega), if_pos (by omega), e0, if_pos (by omega), if_pos (by rw [List.length_map]; omega), rd33_get M i m hg, rd33_get L (n + i) _ hg2, rd33_get L n t ht]
    rw [if_pos (show (s33 m).f0 = (s33 (shift t.pos m)).f0 from rfl), if_pos (show (s33 m).f1.toList = (s33 (shift t.pos m)).f1.toList from rfl), if_pos (by omega), if_pos (by rw [List.length_map]; omega)]
    have e1 : (s33 (shift t.pos m)).f2 = (m.pos : Int) + (t.pos : Int) := by simp [s33, shift]
    have e2 : (s33 t).f2 = (t.pos : Int) := rfl
    have e3 : (s33 m).f2 = (m.pos : Int) := rfl
    have hpm' : m.pos + t.pos < 4611686018427387904 := hpm
    rw [e1, e2, e3, wrap_of _ (by omega) (by omega), if_pos (by omega), wrap_next i (by omega)]
    exact hih

theorem PLexerLongest (a0 : ByteArray) (a1 : Int) (w1 : (Lit.int .u8 a1).wf = true) : ∃ k, backsteplaw02_LexerLongest.f k a0 a1 = some true := by
  have h1 : IntKind.u8.min = 0 := rfl
  have h2 : IntKind.u8.max = 255 := rfl
  simp only [Lit.wf, Bool.and_eq_true, decide_eq_true_eq] at w1
  obtain ⟨c, rfl⟩ : ∃ m : Nat, a1 = (m : Int) := ⟨a1.toNat, by omega⟩
  have hc : c ≤ 255 := by omega
  refine ⟨(lexGo a0.data.toList 0).1.length + 4, ?_⟩
  unfold backsteplaw02_LexerLongest.f
  rw [awake_true]
  simp only [Option.bind_some, if_true]
  by_cases h : (a0.size : Int) > 200
  · rw [if_pos h]
  rw [if_neg h]
  have hl : a0.data.toList.length ≤ 200 := by rw [size_list]; omega
  cases e : (lexGo a0.data.toList 0).2 with
  | some q =>
    rw [lex_some (lexR_bad (by omega) e)]
    simp only [Option.bind_some]
    rw [if_neg (by decide)]
    simp only [backsteplaw02_LexerLongest.j0]
    rw [if_pos trivial]
  | none =>
    rw [lex_some (lexR_ok (by omega) e)]
    simp only [Option.bind_some]
    rw [if_pos (by decide)]
    obtain ⟨L, hL⟩ : ∃ L, L = (lexGo a0.data.toList 0).1 := ⟨_, rfl⟩
    have hlen : L.length ≤ a0.data.toList.length := by rw [hL]; exact lexGo_len _ 0
    rw [← hL]
    simp only [backsteplaw02_LexerLongest.j0]
    by_cases h0 : L.length = 0
    · rw [if_pos (by simp [h0])]
    have hlm : (L.map s33).length = L.length := List.length_map _
    have en : Int.tmod (wrap64 (c : Int)) ((L.map s33).length : Int) = ((c % L.length : Nat) : Int) := by
      rw [wrap_of _ (by omega) (by omega), hlm]; exact (Int.ofNat_tmod c L.length).symm
    have hnl : c % L.length < L.length := Nat.mod_lt _ (by omega)
    generalize c % L.length = n at en hnl
    have hg : L[n]? = some L[n] := List.getElem?_eq_getElem hnl
    generalize L[n] = t at hg
    rw [if_neg (by simp [h0]), if_neg (by rw [hlm]; omega), en, if_pos (by omega), if_pos (by rw [hlm]; omega), rd33_get L n t hg]
    obtain ⟨hp, hn2, hM⟩ := suffix a0.data.toList e n t (by rw [← hL]; exact hg)
    have et : (s33 t).f2 = (t.pos : Int) := rfl
    have hsz := size_list a0
    rw [et, if_neg (by omega)]
    simp only [backsteplaw02_LexerLongest.j1]
    rw [if_neg (by first | (simp; done) | (simp; omega)), if_pos (by omega), if_pos (by rw [hlm]; omega), rd33_get L n t hg, et, if_pos (by omega), if_pos (by omega)]
    have ex : (a0.extract ((t.pos : Int).toNat) a0.size).data.toList = a0.data.toList.drop t.pos := by
      rw [Lib.extract_data, Int.toNat_natCast, List.take_of_length_le (by rw [List.length_drop]; omega)]
    have hr : lexR (a0.extract ((t.pos : Int).toNat) a0.size).data.toList = ((lexGo (a0.data.toList.drop t.pos) 0).1, 0, 0) := by rw [ex]; exact lexR_ok (by rw [List.length_drop]; omega) hn2
    rw [lex_some hr]
    simp only [Option.bind_some]
    rw [if_pos (by decide)]
    obtain ⟨M, hMe⟩ : ∃ M, M = (lexGo (a0.data.toList.drop t.pos) 0).1 := ⟨_, rfl⟩
    rw [← hMe] at hM ⊢
    rw [← hL] at hM
    have hml : M.length = L.length - n := by have := congrArg List.length hM; simpa using this
    simp only [backsteplaw02_LexerLongest.j2]
    rw [if_neg (by rw [hlm, List.length_map, wrap_of _ (by omega) (by omega)]; simp; omega)]
    have hpos : ∀ x ∈ L, x.pos < 4611686018427387904 := by
      intro x hx
      obtain ⟨i, hi⟩ := List.getElem?_of_mem hx
      have := (suffix a0.data.toList e i x (by rw [← hL]; exact hi)).1
      omega
    exact longest_loop L M n t hg hM (by omega) hpos M.length _ 0 (by omega) (by omega)

end Go.Proofs.YtapkfblkghoknaaDoor.PX
