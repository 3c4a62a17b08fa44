/-
  Plain Lean: what the reference's Kind and In say, on lists of bytes.
-/
import Derived.Test.YtapkfblkghoknaaDoorPure0
import Derived.Test.YtapkfblkghoknaaDoorPX8
namespace Go.Proofs.YtapkfblkghoknaaDoor.PX
open Go.RowKit Go.Proofs.YtapkfblkghoknaaDoorW.PrintWords Go.Proofs.YtapkfblkghoknaaDoorW.PrintLast Go.Proofs.YtapkfblkghoknaaDoorW.PrintMore

theorem letter_of (c : UInt8) : backstepref02_letter.f (c.toNat : Int) = some (isLetter c) := by
  unfold backstepref02_letter.f isLetter
  by_cases h : 97 ≤ c.toNat
  · rw [if_pos (by omega)]
    simp only [h, decide_true, Bool.true_and, Option.some.injEq]
    rw [decide_eq_decide]; omega
  · rw [if_neg (by omega)]; simp [h]
theorem digit_of (c : UInt8) : backstepref02_digit.f (c.toNat : Int) = some (isDigit c) := by
  unfold backstepref02_digit.f isDigit
  by_cases h : 48 ≤ c.toNat
  · rw [if_pos (by omega)]
    simp only [h, decide_true, Bool.true_and, Option.some.injEq]
    rw [decide_eq_decide]; omega
  · rw [if_neg (by omega)]; simp [h]
theorem nat_eq (c d : UInt8) : ((c.toNat : Int) = (d.toNat : Int)) = ((c == d) = true) := by
  rw [beq_iff_eq]
  refine propext ⟨fun h => UInt8.toNat_inj.1 (by omega), fun h => by rw [h]⟩
theorem nat_beq (c d : UInt8) : ((c.toNat : Int) == (d.toNat : Int)) = (c == d) := by
  rw [Bool.eq_iff_iff, beq_iff_eq, nat_eq]
theorem nat_bne (c d : UInt8) : ((c.toNat : Int) != (d.toNat : Int)) = (c != d) := by
  rw [bne, nat_beq, bne]

theorem kind_step (k : Nat) (a : ByteArray) (i : Nat) (c : UInt8) (hi : i < a.size) (hc : bt a (i : Int) = (c.toNat : Int)) (hb : a.size < 9223372036854775807) (w n sp cm : Bool) :
    backstepref02_Kind.l0 (k + 1) a w n sp cm (i : Int) = backstepref02_Kind.l0 k a (w && isWord c) (n && isDigit c) (sp && isSpace c) (cm && notLf c) ((i + 1 : Nat) : Int) := by
  have e32 : ((c.toNat : Int) = 32) = ((c == 32) = true) := nat_eq c 32
  have e9 : ((c.toNat : Int) = 9) = ((c == 9) = true) := nat_eq c 9
  have e13 : ((c.toNat : Int) = 13) = ((c == 13) = true) := nat_eq c 13
  have e10 : ((c.toNat : Int) == 10) = (c == 10) := nat_beq c 10
  have n10 : ((c.toNat : Int) != 10) = !(c == 10) := nat_bne c 10
  simp only [backstepref02_Kind.l0]
  rw [if_pos (by omega), if_pos (by omega), hc, letter_of, digit_of, wrap_next i (by omega)]
  simp only [Option.bind_some, e32, e9, e13, e10, n10, isWord, isSpace, notLf, bne]
  generalize isLetter c = b1
  generalize isDigit c = b2
  generalize (c == 32) = b3
  generalize (c == 9) = b4
  generalize (c == 13) = b5
  generalize (c == 10) = b6
  cases w <;> cases n <;> cases sp <;> cases cm <;> cases b1 <;> cases b2 <;> cases b3 <;> cases b4 <;> cases b5 <;> rfl

theorem in_loop (L : List Bs) (a : ByteArray) (hb : L.length < 9223372036854775807) (d : Nat) : ∀ (k i : Nat), i + d = L.length → d < k → backstepref02_In.l0 k (L.map bstr) a (i : Int) = some (decide (a.data.toList ∈ L.drop i)) := by
  induction d with
  | zero =>
    intro k i hi hk
    obtain ⟨k, rfl⟩ : ∃ m, k = m + 1 := ⟨k - 1, by omega⟩
    simp only [backstepref02_In.l0]
    rw [if_neg (by rw [List.length_map]; omega), List.drop_of_length_le (by omega)]
    simp
  | succ d ih =>
    intro k i hi hk
    obtain ⟨k, rfl⟩ : ∃ m, k = m + 1 := ⟨k - 1, by omega⟩
    have hih := ih k (i + 1) (by omega) (by omega)
    have hlt : i < L.length := by omega
    have e : rdOf ByteArray.empty (L.map bstr) (i : Int) = bstr L[i] := by
      unfold rdOf
      rw [Int.toNat_natCast, List.getD_eq_getElem?_getD, List.getElem?_map, List.getElem?_eq_getElem hlt]
      rfl
    simp only [backstepref02_In.l0]
    rw [if_pos (by rw [List.length_map]; omega), if_pos (by omega), e, bstr_toList, Lib.toList_data, List.drop_eq_getElem_cons hlt, wrap_next i (by omega)]
    by_cases h : L[i] = a.data.toList
    · have hm : a.data.toList ∈ L[i] :: L.drop (i + 1) := by rw [← h]; exact List.mem_cons_self
      rw [if_pos h, decide_eq_true hm]
    · rw [if_neg h, hih]
      congr 1
      rw [decide_eq_decide, List.mem_cons]
      exact ⟨Or.inr, fun o => o.resolve_left (Ne.symm h)⟩
theorem in_of (L : List Bs) (a : ByteArray) (hb : L.length < 9223372036854775807) (k : Nat) (hk : L.length < k) : backstepref02_In.f k (L.map bstr) a = some (decide (a.data.toList ∈ L)) := by
  have h := in_loop L a hb L.length k 0 (by omega) hk
  rw [List.drop_zero] at h
  exact h
theorem signs_of : backstepref02_Signs.f = some (signsL.map bstr) := rfl

def fin (w n sp cm : Bool) (u : Bs) : Nat := if w then 1 else if n then 2 else if u ∈ signsL then 3 else if sp then 4 else if cm then 5 else 0
theorem kind_loop (a : ByteArray) (hb : a.size < 9223372036854775807) (d : Nat) : ∀ (k i : Nat) (w n sp cm : Bool), i + d = a.size → d + 40 < k →
    backstepref02_Kind.l0 k a w n sp cm (i : Int) = some ((fin (w && (a.data.toList.drop i).all isWord) (n && (a.data.toList.drop i).all isDigit) (sp && (a.data.toList.drop i).all isSpace) (cm && (a.data.toList.drop i).all notLf) a.data.toList : Nat) : Int) := by
  induction d with
  | zero =>
    intro k i w n sp cm hi hk
    obtain ⟨k, rfl⟩ : ∃ m, k = m + 1 := ⟨k - 1, by omega⟩
    rw [List.drop_of_length_le (by rw [size_list]; omega)]
    simp only [backstepref02_Kind.l0]
    rw [if_neg (by omega), signs_of]
    simp only [Option.bind_some]
    rw [in_of signsL a (by decide) k (by have : signsL.length = 31 := rfl; omega)]
    simp only [Option.bind_some, List.all_nil, Bool.and_true, decide_eq_true_eq, fin]
    cases w <;> cases n <;> cases sp <;> cases cm <;> simp <;> (try split) <;> rfl
  | succ d ih =>
    intro k i w n sp cm hi hk
    obtain ⟨k, rfl⟩ : ∃ m, k = m + 1 := ⟨k - 1, by omega⟩
    have hlt : i < a.data.toList.length := by rw [size_list]; omega
    have hbt : bt a (i : Int) = ((a.data.toList[i]).toNat : Int) := by
      unfold bt
      rw [dif_pos (by simpa using (by omega : i < a.size))]
      simp
      rfl
    rw [kind_step k a i _ (by omega) hbt hb, ih k (i + 1) _ _ _ _ (by omega) (by omega), List.drop_eq_getElem_cons hlt]
    simp only [List.all_cons, Bool.and_assoc]

theorem kind_of (a : ByteArray) (hb : a.size < 9223372036854775807) (k : Nat) (hk : a.size + 40 < k) : backstepref02_Kind.f k a = some ((kindL a.data.toList : Nat) : Int) := by
  unfold backstepref02_Kind.f
  rw [Lib.toList_data]
  by_cases h0 : a.data.toList = []
  · rw [if_pos h0]; unfold kindL; rw [if_pos h0]; rfl
  · have hp : 0 < a.data.toList.length := List.length_pos_iff.2 h0
    have hz : 0 < a.size := by rw [← size_list]; exact hp
    have hbt : bt a 0 = ((a.data.toList.headD 0).toNat : Int) := by
      have e : ∀ l : Bs, (hl : 0 < l.length) → l.headD 0 = l[0] := by
        intro l hl
        cases l with
        | nil => simp at hl
        | cons x l => rfl
      rw [e _ hp]
      unfold bt
      rw [dif_pos (by simpa using hz)]
      simp
      rfl
    have e35 : (((a.data.toList.headD 0).toNat : Int) == 35) = (a.data.toList.headD 0 == 35) := nat_beq _ 35
    rw [if_neg h0, if_pos (by omega), hbt, letter_of]
    simp only [Option.bind_some]
    have h := kind_loop a hb a.size k 0 (isLetter (a.data.toList.headD 0)) true true (((a.data.toList.headD 0).toNat : Int) == 35) (by omega) (by omega)
    rw [e35] at h ⊢
    rw [show ((0 : Nat) : Int) = 0 from rfl, List.drop_zero] at h
    rw [h]
    unfold kindL fin
    rw [if_neg h0]
    simp

end Go.Proofs.YtapkfblkghoknaaDoor.PX
