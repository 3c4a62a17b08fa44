/-
  Plain Lean: what the printed functions' words come to on tokens; the document's examples.
-/
import Derived.Test.YtapkfblkghoknaaDoorPX3
import Derived.Lib.Strings
import Derived.IntWalk
namespace Go.Proofs.YtapkfblkghoknaaDoor.PX
open Go.RowKit Go.Proofs.YtapkfblkghoknaaDoorW.PrintWords Go.Proofs.YtapkfblkghoknaaDoorW.PrintLast Go.Proofs.YtapkfblkghoknaaDoorW.PrintMore

theorem wrap_of (n : Int) (h0 : -9223372036854775808 ≤ n) (h1 : n ≤ 9223372036854775807) : wrap64 n = n := by unfold wrap64; omega
theorem wrap_next (i : Nat) (h : i < 9223372036854775807) : wrap64 ((i : Int) + 1) = ((i + 1 : Nat) : Int) := by rw [wrap_of _ (by omega) (by omega)]; omega
theorem rd33 (l : List Tk) (i : Nat) (h : i < l.length) : rd_T33 (l.map s33) (i : Int) = s33 l[i] := by
  unfold rd_T33
  rw [Int.toNat_natCast, List.getD_eq_getElem?_getD, List.getElem?_map, List.getElem?_eq_getElem h]
  rfl
theorem rd33_get (l : List Tk) (i : Nat) (t : Tk) (h : l[i]? = some t) : rd_T33 (l.map s33) (i : Int) = s33 t := by
  obtain ⟨h1, rfl⟩ := List.getElem?_eq_some_iff.1 h
  exact rd33 l i h1
theorem bstr_list (l : Bs) : (bstr l).data.toList = l := rfl
theorem bstr_toList (l : Bs) : (bstr l).toList = l := Lib.toList_data _
theorem bstr_size (l : Bs) : (bstr l).size = l.length := by show l.toArray.size = _; simp
theorem size_list (a : ByteArray) : a.data.toList.length = a.size := by simp
theorem lex_some {a : ByteArray} {T : List Tk} {p e : Nat} (h : lexR a.data.toList = (T, p, e)) : lexer_Lex.f a = some (T.map s33, (p : Int), (e : Int)) := by
  unfold lexer_Lex.f; rw [h]
theorem lexR_ok {l : Bs} (hl : l.length ≤ 65536) (h : (lexGo l 0).2 = none) : lexR l = ((lexGo l 0).1, 0, 0) := by
  unfold lexR; rw [if_neg (by omega), h]
theorem lexR_bad {l : Bs} (hl : l.length ≤ 65536) {q : Nat} (h : (lexGo l 0).2 = some q) : lexR l = ([], q, 3) := by
  unfold lexR; rw [if_neg (by omega), h]
theorem lexR_big {l : Bs} (hl : 65536 < l.length) : lexR l = ([], 0, 5) := by
  unfold lexR; rw [if_pos hl]

/-- The same with rounds, for texts that are written out. -/
def lexF : Nat → Bs → Nat → List Tk × Option Nat
  | 0, _, _ => ([], none)
  | k + 1, s, p => if s = [] then ([], none) else if (nextL s).2 = 0 then ([], some p) else (⟨(nextL s).1, s.take (nextL s).2, p⟩ :: (lexF k (s.drop (nextL s).2) (p + (nextL s).2)).1, (lexF k (s.drop (nextL s).2) (p + (nextL s).2)).2)
theorem lexF_go : ∀ (k : Nat) (s : Bs) (p : Nat), s.length ≤ k → lexF k s p = lexGo s p
  | 0, s, p, h => by
    have : s = [] := List.length_eq_zero_iff.1 (by omega)
    subst this; rw [lexGo_nil]; rfl
  | k + 1, s, p, h => by
    unfold lexF
    by_cases hs : s = []
    · subst hs; rw [lexGo_nil]; rfl
    · rw [if_neg hs]
      by_cases h2 : (nextL s).2 = 0
      · rw [if_pos h2, lexGo_bad p hs h2]
      · have hl : (s.drop (nextL s).2).length ≤ k := by rw [List.length_drop]; omega
        rw [if_neg h2, lexGo_ok p hs h2, lexF_go k _ _ hl]

theorem lexGo_len (s : Bs) : ∀ p, (lexGo s p).1.length ≤ s.length := by
  refine lex_induct (P := fun s => ∀ p, (lexGo s p).1.length ≤ s.length) ?_ ?_ ?_ s
  · intro p; rw [lexGo_nil]; simp
  · intro s hs h p; rw [lexGo_bad _ hs h]; simp
  · intro s hs h ih p
    have h1 := ih (p + (nextL s).2)
    have h2 := nextL_le s
    rw [lexGo_ok _ hs h]
    rw [List.length_drop] at h1
    rw [List.length_cons]
    omega

def aw1 : List Tk := [⟨1, [120, 49], 0⟩, ⟨4, [32], 2⟩, ⟨3, [43, 61], 3⟩, ⟨4, [32], 5⟩, ⟨2, [51], 6⟩, ⟨3, [59], 7⟩, ⟨5, [35, 99], 8⟩]
def aw2 : List Tk := [⟨1, [97], 0⟩, ⟨3, [60, 61, 62], 1⟩, ⟨1, [98], 4⟩]
theorem awake1 : lexR [120, 49, 32, 43, 61, 32, 51, 59, 35, 99] = (aw1, 0, 0) := by
  have h : lexGo [120, 49, 32, 43, 61, 32, 51, 59, 35, 99] 0 = (aw1, none) := by rw [← lexF_go 10 _ 0 (by decide)]; decide
  rw [lexR_ok (by decide) (by rw [h]), h]
theorem awake2 : lexR [97, 60, 61, 62, 98] = (aw2, 0, 0) := by
  have h : lexGo [97, 60, 61, 62, 98] 0 = (aw2, none) := by rw [← lexF_go 10 _ 0 (by decide)]; decide
  rw [lexR_ok (by decide) (by rw [h]), h]
theorem awake3 : lexR [97, 66] = ([], 1, 3) := by
  have h : (lexGo [97, 66] 0).2 = some 1 := by rw [← lexF_go 10 _ 0 (by decide)]; decide
  rw [lexR_bad (by decide) h]
theorem awake_true : backsteplaw02_awake.f = some true := by
  unfold backsteplaw02_awake.f
  rw [lex_some (a := ⟨#[120, 49, 32, 43, 61, 32, 51, 59, 35, 99]⟩) awake1]
  simp only [Option.bind_some]
  rw [lex_some (a := ⟨#[97, 60, 61, 62, 98]⟩) awake2]
  simp only [Option.bind_some]
  rw [lex_some (a := ⟨#[97, 66]⟩) awake3]
  simp only [Option.bind_some]
  rw [show (2 : Int) = ((2 : Nat) : Int) from rfl, rd33 aw1 2 (by decide)]
  rw [show (6 : Int) = ((6 : Nat) : Int) from rfl, rd33 aw1 6 (by decide)]
  have e1 : (s33 aw1[2]).f1.toList = [43, 61] := bstr_toList _
  rw [e1]
  rfl

end Go.Proofs.YtapkfblkghoknaaDoor.PX
