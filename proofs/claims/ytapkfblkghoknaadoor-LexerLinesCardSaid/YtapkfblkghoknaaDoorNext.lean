/-
  The contracts of signs and next.
-/
import Derived.Test.YtapkfblkghoknaaDoorSpan
import Derived.Test.YtapkfblkghoknaaDoorShelf
import Derived.Lib.LaidTab
import Derived.Lib.Strings
namespace Go.Proofs.YtapkfblkghoknaaDoor
open Go.RowKit

abbrev Tab (w : World) : Prop := Lib.TabIs Tryd.prog w "strings.asciiSpace" .u8 Lib.asciiSpaceTab
def bstr (l : Bs) : ByteArray := ⟨l.toArray⟩
def strsV (ls : List Bs) : List Value := ls.map fun l => Value.string (bstr l)
def signsText : Bs := [60, 61, 62, 32, 58, 61, 32, 43, 61, 32, 45, 61, 32, 94, 61, 32, 61, 61, 32, 33, 61, 32, 60, 61, 32, 62, 61, 32, 38, 38, 32, 124, 124, 32, 43, 32, 45, 32, 42, 32, 47, 32, 37, 32, 38, 32, 124, 32, 94, 32, 33, 32, 61, 32, 60, 32, 62, 32, 40, 32, 41, 32, 123, 32, 125, 32, 91, 32, 93, 32, 59, 32, 44]
def kwText : Bs := [105, 110, 116, 32, 97, 114, 114, 97, 121, 32, 115, 116, 97, 99, 107, 32, 112, 114, 111, 99, 32, 109, 97, 105, 110, 32, 112, 117, 115, 104, 32, 112, 111, 112, 32, 114, 101, 97, 100, 32, 117, 110, 114, 101, 97, 100, 32, 119, 114, 105, 116, 101, 32, 117, 110, 119, 114, 105, 116, 101, 32, 99, 97, 108, 108, 32, 117, 110, 99, 97, 108, 108, 32, 105, 102, 32, 101, 108, 115, 101, 32, 102, 105, 32, 102, 114, 111, 109, 32, 108, 111, 111, 112, 32, 117, 110, 116, 105, 108, 32, 108, 111, 99, 97, 108, 32, 100, 101, 108, 111, 99, 97, 108, 32, 116, 111, 112, 32, 115, 105, 122, 101]

theorem fields_of (t : Bs) (ls : List Bs) (n : Nat) (hn : t.length = n) (hb : n < 1000) (ha : t.all (fun b => decide (b.toNat < 128)) = true) (hf : Lib.fields t = ls) (w : World) (ht : Tab w) :
    Calls Tryd.prog 39 #[.string (bstr t)] w fun e w' => e = .returned (.slice (some ⟨w.heap.size, 0, none⟩) ls.length ls.length) ∧ w' = w.alloc (.cells (strsV ls).toArray 9) := by
  have h := Tryd.strings_Fields_laid (bstr t) w (by show t.toArray.size < _; rw [List.size_toArray]; omega) (fun j b hj => by
    have hb' : b ∈ t := List.mem_of_getElem? hj
    simpa using List.all_eq_true.1 ha b hb') ht
  have e : (bstr t).data.toList = t := rfl
  rw [e, hf] at h
  exact h
theorem fields_signs (w : World) (ht : Tab w) : Calls Tryd.prog 39 #[.string (bstr signsText)] w fun e w' => e = .returned (.slice (some ⟨w.heap.size, 0, none⟩) 31 31) ∧ w' = w.alloc (.cells (strsV signsL).toArray 9) :=
  fields_of signsText signsL 73 rfl (by decide) (by decide +kernel) (by decide +kernel) w ht
theorem fields_kw (w : World) (ht : Tab w) : Calls Tryd.prog 39 #[.string (bstr kwText)] w fun e w' => e = .returned (.slice (some ⟨w.heap.size, 0, none⟩) 23 23) ∧ w' = w.alloc (.cells (strsV kwL).toArray 9) :=
  fields_of kwText kwL 122 rfl (by decide) (by decide +kernel) (by decide +kernel) w ht

theorem signs_any (w : World) (ht : Tab w) : Calls Tryd.prog 34 #[] w fun e w' => e = .returned (.slice (some ⟨w.heap.size, 0, none⟩) 31 31) ∧ w' = w.alloc (.cells (strsV signsL).toArray 9) := by
  have HT := Lib.hid ht; clear ht
  go_enter Tryd.func34, Tryd.ntmps34
  go_wp2_with fail
  refine (fields_signs _ HT.out).mono ?_
  rintro e w1 ⟨rfl, hw⟩
  have HW := Lib.hid hw; clear hw
  go_wp2
  go_ret
  exact ⟨rfl, HW.out⟩

theorem find_first : ∀ (ls : List Bs) (q : Bs → Bool) (j : Nat) (hj : j < ls.length), (∀ i (hi : i < j), q (ls[i]'(by omega)) = false) → q ls[j] = true → ls.find? q = some ls[j]
  | [], _, _, hj, _, _ => absurd hj (by simp)
  | a :: ls, q, 0, _, _, h => by rw [List.find?_cons]; simp only [List.getElem_cons_zero] at h ⊢; rw [h]
  | a :: ls, q, j + 1, hj, hn, h => by
    have h0 := hn 0 (by omega)
    simp only [List.getElem_cons_zero] at h0
    rw [List.find?_cons, h0]
    simp only [List.getElem_cons_succ] at h ⊢
    exact find_first ls q j (by simpa using hj) (fun i hi => by have := hn (i + 1) (by omega); simpa only [List.getElem_cons_succ] using this) h
theorem signLen_at (l : Bs) (j : Nat) (hj : j < 31) (hn : ∀ i, i < j → ((signsL.getD i []).isPrefixOf l) = false) (h : ((signsL.getD j []).isPrefixOf l) = true) : signLen l = (signsL.getD j []).length := by
  have hl : j < signsL.length := hj
  have e : signsL.getD j [] = signsL[j] := by simp [List.getD, List.getElem?_eq_getElem hl]
  rw [e] at h ⊢
  have := find_first signsL (fun x => x.isPrefixOf l) j hl (fun i hi => by
    have h2 := hn i hi
    have hil : i < signsL.length := by omega
    simpa [List.getD, List.getElem?_eq_getElem hil] using h2) h
  unfold signLen
  rw [this]
  rfl
theorem signLen_none (l : Bs) (hn : ∀ i, i < 31 → ((signsL.getD i []).isPrefixOf l) = false) : signLen l = 0 := by
  have : signsL.find? (fun x => x.isPrefixOf l) = none := by
    rw [List.find?_eq_none]
    intro x hx
    obtain ⟨i, hi, rfl⟩ := List.mem_iff_getElem.1 hx
    have := hn i hi
    have e : signsL.getD i [] = signsL[i] := by simp [List.getD, List.getElem?_eq_getElem hi]
    rw [e] at this
    simp [this]
  unfold signLen
  rw [this]
  rfl
theorem hasPrefix_eq (s p : Bs) : Lib.hasPrefix s p = p.isPrefixOf s := rfl

theorem head_get (s : ByteArray) (h : 0 < s.size) : ∃ l, s.data.toList = s[0] :: l := by
  have hl : 0 < s.data.toList.length := by simpa using h
  match hs : s.data.toList, hl with
  | c :: l, _ =>
    refine ⟨l, ?_⟩
    have : s[0] = s.data.toList[0] := rfl
    rw [this]
    simp [hs]

set_option maxHeartbeats 1000000 in
theorem next_any (s : ByteArray) (w : World) (ht : Tab w) (h0 : 0 < s.size) (hs : s.size ≤ 140737488351232) :
    Calls Tryd.prog 23 #[.string s] w fun e w' => e = .returned (.tuple #[.int .u8 ((nextL s.data.toList).1 : Int), .int .i64 ((nextL s.data.toList).2 : Int)]) ∧ Below w.heap.size w w' := by
  have HT := Lib.hid ht; clear ht
  obtain ⟨l, hl⟩ := head_get s h0
  obtain ⟨c, hc⟩ : ∃ c, c = s[0] := ⟨_, rfl⟩
  rw [← hc] at hl
  have HC := Lib.hid hc
  by_cases h1 : isLetter c = true
  · have hn : nextL s.data.toList = (1, span isWord s.data.toList) := by rw [hl]; simp only [nextL, if_pos h1]
    rw [hn]
    have H1 := Lib.hid h1; clear h1 hn hl hc
    go_enter Tryd.func23, Tryd.ntmps23
    go_wp2_with fail
    rw [← HC.out]
    refine (letter_any c w).mono ?_
    rintro e w1 ⟨rfl, rfl⟩
    rw [H1.out]
    go_wp2_with fail
    refine (span_word s w (by omega)).mono ?_
    rintro e w1 ⟨rfl, rfl⟩
    go_wp2
    go_ret2
    exact ⟨rfl, Below.refl _ _⟩
  have f1 : isLetter c = false := by simpa using h1
  have F1 := Lib.hid f1; clear f1
  by_cases h2 : isDigit c = true
  · have hn : nextL s.data.toList = (2, span isDigit s.data.toList) := by rw [hl]; simp only [nextL, if_neg h1, if_pos h2]
    rw [hn]
    have H2 := Lib.hid h2; clear h1 h2 hn hl hc
    go_enter Tryd.func23, Tryd.ntmps23
    go_wp2_with fail
    rw [← HC.out]
    refine (letter_any c w).mono ?_
    rintro e w1 ⟨rfl, rfl⟩
    rw [F1.out]
    go_wp2_with fail
    refine (digit_any c w).mono ?_
    rintro e w1 ⟨rfl, rfl⟩
    rw [H2.out]
    go_wp2_with fail
    refine (span_digit s w (by omega)).mono ?_
    rintro e w1 ⟨rfl, rfl⟩
    go_wp2
    go_ret2
    exact ⟨rfl, Below.refl _ _⟩
  have f2 : isDigit c = false := by simpa using h2
  have F2 := Lib.hid f2; clear f2
  by_cases h3 : isSpace c = true
  · have hn : nextL s.data.toList = (4, span isSpace s.data.toList) := by rw [hl]; simp only [nextL, if_neg h1, if_neg h2, if_pos h3]
    rw [hn]
    have H3 := Lib.hid h3; clear h1 h2 h3 hn hl hc
    go_enter Tryd.func23, Tryd.ntmps23
    go_wp2_with fail
    rw [← HC.out]
    refine (letter_any c w).mono ?_
    rintro e w1 ⟨rfl, rfl⟩
    rw [F1.out]
    go_wp2_with fail
    refine (digit_any c w).mono ?_
    rintro e w1 ⟨rfl, rfl⟩
    rw [F2.out]
    go_wp2_with fail
    refine (space_any c w).mono ?_
    rintro e w1 ⟨rfl, rfl⟩
    rw [H3.out]
    go_wp2_with fail
    refine (span_space s w (by omega)).mono ?_
    rintro e w1 ⟨rfl, rfl⟩
    go_wp2
    go_ret2
    exact ⟨rfl, Below.refl _ _⟩
  have f3 : isSpace c = false := by simpa using h3
  have F3 := Lib.hid f3; clear f3
  have e35 : ((c.toNat : Int) == 35) = (c == 35) := beq_u8 c 35 (by decide)
  by_cases h4 : (c == 35) = true
  · have hn : nextL s.data.toList = (5, span notLf s.data.toList) := by rw [hl]; simp only [nextL, if_neg h1, if_neg h2, if_neg h3, if_pos h4]
    rw [hn]
    rw [h4] at e35
    clear h1 h2 h3 h4 hn hl hc
    go_enter Tryd.func23, Tryd.ntmps23
    go_wp2_with fail
    rw [← HC.out]
    refine (letter_any c w).mono ?_
    rintro e w1 ⟨rfl, rfl⟩
    rw [F1.out]
    go_wp2_with fail
    refine (digit_any c w).mono ?_
    rintro e w1 ⟨rfl, rfl⟩
    rw [F2.out]
    go_wp2_with fail
    refine (space_any c w).mono ?_
    rintro e w1 ⟨rfl, rfl⟩
    rw [F3.out]
    go_wp2_with fail
    refine (span_lf s w (by omega)).mono ?_
    rintro e w1 ⟨rfl, rfl⟩
    go_wp2
    go_ret2
    exact ⟨rfl, Below.refl _ _⟩
  have f4 : (c == 35) = false := by simpa using h4
  rw [f4] at e35
  have hn : nextL s.data.toList = if signLen s.data.toList = 0 then (0, 0) else (3, signLen s.data.toList) := by rw [hl]; simp only [nextL, if_neg h1, if_neg h2, if_neg h3, if_neg h4]
  have HN := Lib.hid hn
  clear h1 h2 h3 h4 f4 hl hc hn
  go_enter Tryd.func23, Tryd.ntmps23
  go_wp2_with fail
  rw [← HC.out]
  refine (letter_any c w).mono ?_
  rintro e w1 ⟨rfl, rfl⟩
  rw [F1.out]
  go_wp2_with fail
  refine (digit_any c w).mono ?_
  rintro e w1 ⟨rfl, rfl⟩
  rw [F2.out]
  go_wp2_with fail
  refine (space_any c w).mono ?_
  rintro e w1 ⟨rfl, rfl⟩
  rw [F3.out]
  go_wp2_with fail
  refine (signs_any w HT.out).mono ?_
  rintro e w1 ⟨rfl, hw1⟩
  have hcell : Hid (∀ j, j < 31 → w1.cell? ⟨w.heap.size, j, none⟩ = some (.string (bstr (signsL.getD j [])))) := fun j hj => by
    rw [hw1, World.cell?_alloc_new]
    have hjl : j < signsL.length := hj
    simp [strsV, List.getD, List.getElem?_eq_getElem hjl]
  have hbel : Hid (Below w.heap.size w w1) := by rw [hw1]; exact (Below.refl _ _).alloc (Nat.le_refl _) _
  clear hw1
  go_wp2
  go_loop [31] (fun i => ∃ j : Nat, j ≤ 31 ∧ i = .int .i64 j ∧ Hid (∀ i, i < j → ((signsL.getD i []).isPrefixOf s.data.toList) = false)) (fun i => 31 - (intOf i).toNat)
  case atStart => exact ⟨0, Nat.zero_le _, rfl, fun i hi => absurd hi (by omega)⟩
  case round =>
    obtain ⟨j, hj, rfl, hnp⟩ := hrel
    by_cases hlt : j < 31
    · have hjk : (j : Int) < 31 := by omega
      obtain ⟨x, hx⟩ : ∃ x, x = signsL.getD j [] := ⟨_, rfl⟩
      have hc0 : w1.cell? ⟨w.heap.size, j, none⟩ = some (.string (bstr x)) := by rw [hx]; exact hcell.out j hlt
      have HX := Lib.hid hx; clear hx
      cases hp : x.isPrefixOf s.data.toList with
      | true =>
        have HP := Lib.hid hp; clear hp
        go_wp2_with fail
        refine (Tryd.strings_HasPrefix s (bstr x) w1).mono ?_
        rintro e w2 ⟨rfl, hw2⟩
        obtain rfl : w1 = w2 := hw2.symm
        rw [show Lib.hasPrefix s.data.toList (bstr x).data.toList = true from HP.out]
        go_wp2
        go_ret2
        have hlen := signLen_at s.data.toList j hlt hnp.out (by rw [← HX.out]; exact HP.out)
        have hpos := signs_pos (signsL.getD j []) (by
          have hjl : j < signsL.length := hlt
          rw [show signsL.getD j [] = signsL[j] by simp [List.getD, List.getElem?_eq_getElem hjl]]
          exact List.getElem_mem _)
        rw [HN.out, if_neg (by omega), hlen, ← HX.out]
        exact ⟨rfl, hbel.out⟩
      | false =>
        have HP := Lib.hid hp; clear hp
        go_wp2_with fail
        refine (Tryd.strings_HasPrefix s (bstr x) w1).mono ?_
        rintro e w2 ⟨rfl, hw2⟩
        obtain rfl : w1 = w2 := hw2.symm
        rw [show Lib.hasPrefix s.data.toList (bstr x).data.toList = false from HP.out]
        go_wp2
        go_round
        case rel => exact ⟨j + 1, by omega, by go_num, fun i hi => by
          rcases Nat.lt_or_ge i j with h | h
          · exact hnp.out i h
          · obtain rfl : i = j := by omega
            rw [← HX.out]; exact HP.out⟩
        case measure => simp [intOf]; omega
    · obtain rfl : j = 31 := by omega
      have hz := signLen_none s.data.toList hnp.out
      have HZ := Lib.hid hz
      clear hlt hj hz
      go_wp2
      go_ret2
      rw [HN.out, if_pos HZ.out]
      exact ⟨rfl, hbel.out⟩

end Go.Proofs.YtapkfblkghoknaaDoor
