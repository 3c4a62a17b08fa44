/-
  Plain Lean: MaxText spaces are one token; a longer text fails with ErrFull.
-/
import Derived.Test.YtapkfblkghoknaaDoorPure0
import Derived.Test.YtapkfblkghoknaaDoorPX14
namespace Go.Proofs.YtapkfblkghoknaaDoor.PX
open Go.RowKit Go.Proofs.YtapkfblkghoknaaDoorW.PrintWords Go.Proofs.YtapkfblkghoknaaDoorW.PrintLast Go.Proofs.YtapkfblkghoknaaDoorW.PrintMore

theorem span_spaces (n : Nat) : span isSpace (List.replicate n 32) = n := by
  rw [span_of_all _ _ (by rw [List.all_replicate]; cases n <;> simp [isSpace]), List.length_replicate]
theorem nextL_spaces (n : Nat) : nextL (List.replicate (n + 1) 32) = (4, n + 1) := by
  rw [List.replicate_succ, nextL_space 32 _ (by decide), span_spaces]
theorem lexGo_spaces (n : Nat) : lexGo (List.replicate (n + 1) 32) 0 = ([⟨4, List.replicate (n + 1) 32, 0⟩], none) := by
  have hne : List.replicate (n + 1) (32 : UInt8) ≠ [] := by simp [List.replicate_succ]
  rw [lexGo_ok 0 hne (by rw [nextL_spaces]; simp), nextL_spaces]
  simp only
  rw [List.drop_of_length_le (by simp), lexGo_nil, List.take_of_length_le (by simp)]
theorem lexR_spaces (n : Nat) (h : n + 1 ≤ 65536) : lexR (List.replicate (n + 1) 32) = ([⟨4, List.replicate (n + 1) 32, 0⟩], 0, 0) := by
  rw [lexR_ok (by simpa using h) (by rw [lexGo_spaces]), lexGo_spaces]

theorem str_spaces (m : Nat) : (strOfNums (List.replicate m 32)).data.toList = List.replicate m 32 := by
  unfold strOfNums
  simp
theorem str_length (xs : List Int) : (strOfNums xs).data.toList.length = xs.length := by
  unfold strOfNums
  simp

theorem full_end (c : Int) (k n : Nat) (hn : 65537 ≤ n) : backsteplaw02_LexerFull.l0 (k + 1) c (List.replicate n 32) (n : Int) = some true := by
  have e1 : lexR (strOfNums ((List.replicate n (32 : Int)).take 65536)).data.toList = ([⟨4, List.replicate (65535 + 1) 32, 0⟩], 0, 0) := by
    rw [List.take_replicate, Nat.min_eq_left (by omega), str_spaces, ← lexR_spaces 65535 (by decide)]
  have h2 : 65536 < (strOfNums ((List.replicate n (32 : Int)).set (0 : Int).toNat c)).data.toList.length := by
    rw [str_length, List.length_set, List.length_replicate]
    omega
  generalize (⟨4, List.replicate (65535 + 1) 32, 0⟩ : Tk) = t at e1
  simp only [backsteplaw02_LexerFull.l0]
  rw [if_neg (by rw [List.length_replicate]; omega), if_pos (by rw [List.length_replicate]; omega), lex_some e1, lex_some (lexR_big h2)]
  simp only [Option.bind_some]
  rw [if_pos (by rw [List.length_replicate]; omega)]
  rfl

theorem full_loop (c : Int) (n : Nat) (hn : 65537 ≤ n) (hb : n < 9223372036854775807) (d : Nat) : ∀ (k i : Nat), i + d = n → d < k → backsteplaw02_LexerFull.l0 k c (List.replicate i 32 ++ List.replicate d 0) (i : Int) = some true := by
  induction d with
  | zero =>
    intro k i hi hk
    obtain ⟨k, rfl⟩ : ∃ m, k = m + 1 := ⟨k - 1, by omega⟩
    have : i = n := by omega
    subst this
    rw [List.replicate_zero, List.append_nil]
    exact full_end c k i hn
  | succ d ih =>
    intro k i hi hk
    obtain ⟨k, rfl⟩ : ∃ m, k = m + 1 := ⟨k - 1, by omega⟩
    have hih := ih k (i + 1) (by omega) (by omega)
    simp only [backsteplaw02_LexerFull.l0]
    rw [if_pos (by simp; omega), if_pos (by omega), wrap_next i (by omega)]
    have e : ((List.replicate i (32 : Int)) ++ List.replicate (d + 1) 0).set ((i : Int).toNat) 32 = List.replicate (i + 1) 32 ++ List.replicate d 0 := by
      rw [Int.toNat_natCast, List.set_append, if_neg (by simp), List.length_replicate, Nat.sub_self, List.replicate_succ, List.set_cons_zero, List.replicate_succ' (n := i), List.append_assoc]
      rfl
    rw [e]
    exact hih

theorem PLexerFull (a0 : Int) (_w0 : (Lit.int .u8 a0).wf = true) (a1 : Int) (w1 : (Lit.int .u8 a1).wf = true) : ∃ k, backsteplaw02_LexerFull.f k a0 a1 = some true := by
  have h1 : IntKind.u8.min = 0 := rfl
  have h2 : IntKind.u8.max = 255 := rfl
  simp only [Lit.wf, Bool.and_eq_true, decide_eq_true_eq] at w1
  obtain ⟨m, rfl⟩ : ∃ m : Nat, a1 = (m : Int) := ⟨a1.toNat, by omega⟩
  have hm : m ≤ 255 := by omega
  refine ⟨65537 + m + 1, ?_⟩
  unfold backsteplaw02_LexerFull.f
  have e : wrap64 (65537 + wrap64 (m : Int)) = ((65537 + m : Nat) : Int) := by
    rw [wrap_of (m : Int) (by omega) (by omega), wrap_of _ (by omega) (by omega)]; omega
  rw [awake_true, e]
  simp only [Option.bind_some, if_true]
  rw [if_pos (by omega), if_pos (by rw [Int.toNat_natCast]; omega), Int.toNat_natCast]
  have h := full_loop a0 (65537 + m) (by omega) (by omega) (65537 + m) (65537 + m + 1) 0 (by omega) (by omega)
  rw [List.replicate_zero, List.nil_append] at h
  exact h

end Go.Proofs.YtapkfblkghoknaaDoor.PX
