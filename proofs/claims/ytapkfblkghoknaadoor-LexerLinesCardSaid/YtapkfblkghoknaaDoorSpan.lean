/-
  The contracts of the lexer's byte classes and of span.
-/
import Derived.Test.YtapkfblkghoknaaDoorProg
import Derived.Test.YtapkfblkghoknaaDoorPlain
import Derived.WalkKit
import Derived.WalkLawsBesides
import Derived.WalkSpells
import Derived.Outline
import Derived.Lib.Hide
import Derived.LoopTactic
namespace Go.Proofs.YtapkfblkghoknaaDoor
open Go.RowKit

theorem letter_any (c : UInt8) (w : World) : Calls Tryd.prog 28 #[.int .u8 (c.toNat : Int)] w fun e w' => e = .returned (.bool (isLetter c)) ∧ w = w' := by
  by_cases h1 : (97 : Int) ≤ (c.toNat : Int)
  · by_cases h2 : (c.toNat : Int) ≤ 122
    · have hv : isLetter c = true := by simp only [isLetter, Bool.and_eq_true, decide_eq_true_eq]; omega
      rw [hv]
      clear hv
      go_enter Tryd.func28, Tryd.ntmps28
      go_wp2
      go_ret
      exact ⟨rfl, rfl⟩
    · have hv : isLetter c = false := by simp only [isLetter, Bool.and_eq_false_iff, decide_eq_false_iff_not]; omega
      rw [hv]
      clear hv
      go_enter Tryd.func28, Tryd.ntmps28
      go_wp2
      go_ret
      exact ⟨rfl, rfl⟩
  · have hv : isLetter c = false := by simp only [isLetter, Bool.and_eq_false_iff, decide_eq_false_iff_not]; omega
    have hd : decide ((97 : Int) ≤ (c.toNat : Int)) = false := by rw [decide_eq_false_iff_not]; exact h1
    rw [hv]
    clear hv h1
    go_enter Tryd.func28, Tryd.ntmps28
    go_wp2
    go_ret
    exact ⟨rfl, rfl⟩

theorem digit_any (c : UInt8) (w : World) : Calls Tryd.prog 31 #[.int .u8 (c.toNat : Int)] w fun e w' => e = .returned (.bool (isDigit c)) ∧ w = w' := by
  by_cases h1 : (48 : Int) ≤ (c.toNat : Int)
  · by_cases h2 : (c.toNat : Int) ≤ 57
    · have hv : isDigit c = true := by simp only [isDigit, Bool.and_eq_true, decide_eq_true_eq]; omega
      rw [hv]
      clear hv
      go_enter Tryd.func31, Tryd.ntmps31
      go_wp2
      go_ret
      exact ⟨rfl, rfl⟩
    · have hv : isDigit c = false := by simp only [isDigit, Bool.and_eq_false_iff, decide_eq_false_iff_not]; omega
      rw [hv]
      clear hv
      go_enter Tryd.func31, Tryd.ntmps31
      go_wp2
      go_ret
      exact ⟨rfl, rfl⟩
  · have hv : isDigit c = false := by simp only [isDigit, Bool.and_eq_false_iff, decide_eq_false_iff_not]; omega
    have hd : decide ((48 : Int) ≤ (c.toNat : Int)) = false := by rw [decide_eq_false_iff_not]; exact h1
    rw [hv]
    clear hv h1
    go_enter Tryd.func31, Tryd.ntmps31
    go_wp2
    go_ret
    exact ⟨rfl, rfl⟩

theorem beq_u8 (c : UInt8) (k : Nat) (hk : k < 256) : (((c.toNat : Int)) == (k : Int)) = (c == UInt8.ofNat k) := by
  rw [Bool.eq_iff_iff, beq_iff_eq, beq_iff_eq]
  constructor
  · intro h
    apply UInt8.toNat_inj.1
    rw [UInt8.toNat_ofNat']
    omega
  · rintro rfl
    rw [UInt8.toNat_ofNat']
    omega

theorem space_any (c : UInt8) (w : World) : Calls Tryd.prog 32 #[.int .u8 (c.toNat : Int)] w fun e w' => e = .returned (.bool (isSpace c)) ∧ w = w' := by
  have e1 : ((c.toNat : Int) == 32) = (c == 32) := beq_u8 c 32 (by decide)
  have e2 : ((c.toNat : Int) == 9) = (c == 9) := beq_u8 c 9 (by decide)
  have e3 : ((c.toNat : Int) == 13) = (c == 13) := beq_u8 c 13 (by decide)
  have e4 : ((c.toNat : Int) == 10) = (c == 10) := beq_u8 c 10 (by decide)
  have hv : isSpace c = (((((c.toNat : Int) == 32) || ((c.toNat : Int) == 9)) || ((c.toNat : Int) == 13)) || ((c.toNat : Int) == 10)) := by rw [e1, e2, e3, e4]; rfl
  rw [hv]
  clear hv e1 e2 e3 e4
  cases h1 : ((c.toNat : Int) == 32) <;> cases h2 : ((c.toNat : Int) == 9) <;> cases h3 : ((c.toNat : Int) == 13) <;> cases h4 : ((c.toNat : Int) == 10)
  all_goals
    go_enter Tryd.func32, Tryd.ntmps32
    go_wp2
    go_ret
    exact ⟨rfl, rfl⟩

theorem word_any (c : UInt8) (w : World) : Calls Tryd.prog 30 #[.int .u8 (c.toNat : Int)] w fun e w' => e = .returned (.bool (isWord c)) ∧ w = w' := by
  unfold isWord
  cases h1 : isLetter c
  · have H1 := Lib.hid h1; clear h1
    go_enter Tryd.func30, Tryd.ntmps30
    go_wp2_with fail
    refine (letter_any c w).mono ?_
    rintro e w1 ⟨rfl, rfl⟩
    rw [H1.out]
    go_wp2_with fail
    refine (digit_any c w).mono ?_
    rintro e w1 ⟨rfl, rfl⟩
    go_wp2
    go_ret
    exact ⟨by simp, rfl⟩
  · have H1 := Lib.hid h1; clear h1
    go_enter Tryd.func30, Tryd.ntmps30
    go_wp2_with fail
    refine (letter_any c w).mono ?_
    rintro e w1 ⟨rfl, rfl⟩
    rw [H1.out]
    go_wp2
    go_ret
    exact ⟨by simp, rfl⟩

theorem notlf_any (c : UInt8) (w : World) : Calls Tryd.prog 33 #[.int .u8 (c.toNat : Int)] w fun e w' => e = .returned (.bool (notLf c)) ∧ w = w' := by
  have e4 : ((c.toNat : Int) == 10) = (c == 10) := beq_u8 c 10 (by decide)
  have hv : notLf c = ((c.toNat : Int) != 10) := by show (!(c == 10)) = !((c.toNat : Int) == 10); rw [e4]
  rw [hv]
  clear hv e4
  go_enter Tryd.func33, Tryd.ntmps33
  go_wp2
  go_ret
  exact ⟨rfl, rfl⟩

/-- span, how far a class goes. -/
theorem span_snoc (p : UInt8 → Bool) (l : Bs) (k : Nat) (hk : k < l.length) (h : k ≤ span p l) : (p l[k] = true → k + 1 ≤ span p l) ∧ (p l[k] = false → span p l = k) := by
  induction l generalizing k with
  | nil => simp at hk
  | cons c l ih =>
    cases k with
    | zero =>
      simp only [List.getElem_cons_zero, span]
      refine ⟨fun hp => ?_, fun hp => ?_⟩
      · rw [if_pos hp]; omega
      · rw [if_neg (by simp [hp])]
    | succ k =>
      simp only [span] at h ⊢
      by_cases hc : p c = true
      · rw [if_pos hc] at h ⊢
        obtain ⟨a, b⟩ := ih k (by simpa using hk) (by omega)
        simp only [List.getElem_cons_succ]
        exact ⟨fun hp => by have := a hp; omega, fun hp => by have := b hp; omega⟩
      · rw [if_neg hc] at h; omega

theorem span_word (s : ByteArray) (w : World) (hs : s.size ≤ 9223372036854775806) :
    Calls Tryd.prog 29 #[.string s, .func (.func 30) #[] #[]] w fun e w' => e = .returned (.int .i64 (span isWord s.data.toList)) ∧ w = w' := by
  have hsp := span_le isWord s.data.toList
  have hL : s.data.toList.length = s.size := by simp
  rw [hL] at hsp
  obtain ⟨m, hm⟩ : ∃ m, m = span isWord s.data.toList := ⟨_, rfl⟩
  rw [← hm]
  rw [← hm] at hsp
  have HM := Lib.hid hm; clear hm hL
  go_enter Tryd.func29, Tryd.ntmps29
  go_wp2
  go_loop [5] (fun i => ∃ k : Nat, k ≤ m ∧ i = .int .i64 k) (fun i => s.size - (intOf i).toNat)
  case atStart => exact ⟨0, Nat.zero_le _, rfl⟩
  case round =>
    obtain ⟨k, hk, rfl⟩ := hrel
    by_cases hlt : k < s.size
    · have hlt' : (k : Int) < (s.size : Int) := by omega
      have hst := span_snoc isWord s.data.toList k (by simpa using hlt) (by rw [← HM.out]; exact hk)
      have hget : s.data.toList[k]'(by simpa using hlt) = s[k] := rfl
      rw [hget, ← HM.out] at hst
      have HS := Lib.hid hst; clear hst hget
      cases hp : isWord s[k] with
      | true =>
        have HP := Lib.hid hp; clear hp
        go_wp2_with fail
        refine (word_any s[k] w).mono ?_
        rintro e w1 ⟨rfl, rfl⟩
        rw [HP.out]
        go_wp2
        go_round
        case rel => exact ⟨k + 1, HS.out.1 HP.out, by go_num⟩
        case measure => simp [intOf]; omega
      | false =>
        have HP := Lib.hid hp; clear hp
        go_wp2_with fail
        refine (word_any s[k] w).mono ?_
        rintro e w1 ⟨rfl, rfl⟩
        rw [HP.out]
        go_wp2
        go_ret
        exact ⟨by rw [HS.out.2 HP.out]; rfl, rfl⟩
    · have hge : ¬ (k : Int) < (s.size : Int) := by omega
      have hkm : Hid (m = k) := by show _ = _; omega
      clear hlt hk
      go_wp2
      go_ret
      exact ⟨by rw [hkm.out]; rfl, rfl⟩

theorem span_digit (s : ByteArray) (w : World) (hs : s.size ≤ 9223372036854775806) :
    Calls Tryd.prog 29 #[.string s, .func (.func 31) #[] #[]] w fun e w' => e = .returned (.int .i64 (span isDigit s.data.toList)) ∧ w = w' := by
  have hsp := span_le isDigit s.data.toList
  have hL : s.data.toList.length = s.size := by simp
  rw [hL] at hsp
  obtain ⟨m, hm⟩ : ∃ m, m = span isDigit s.data.toList := ⟨_, rfl⟩
  rw [← hm]
  rw [← hm] at hsp
  have HM := Lib.hid hm; clear hm hL
  go_enter Tryd.func29, Tryd.ntmps29
  go_wp2
  go_loop [5] (fun i => ∃ k : Nat, k ≤ m ∧ i = .int .i64 k) (fun i => s.size - (intOf i).toNat)
  case atStart => exact ⟨0, Nat.zero_le _, rfl⟩
  case round =>
    obtain ⟨k, hk, rfl⟩ := hrel
    by_cases hlt : k < s.size
    · have hlt' : (k : Int) < (s.size : Int) := by omega
      have hst := span_snoc isDigit s.data.toList k (by simpa using hlt) (by rw [← HM.out]; exact hk)
      have hget : s.data.toList[k]'(by simpa using hlt) = s[k] := rfl
      rw [hget, ← HM.out] at hst
      have HS := Lib.hid hst; clear hst hget
      cases hp : isDigit s[k] with
      | true =>
        have HP := Lib.hid hp; clear hp
        go_wp2_with fail
        refine (digit_any s[k] w).mono ?_
        rintro e w1 ⟨rfl, rfl⟩
        rw [HP.out]
        go_wp2
        go_round
        case rel => exact ⟨k + 1, HS.out.1 HP.out, by go_num⟩
        case measure => simp [intOf]; omega
      | false =>
        have HP := Lib.hid hp; clear hp
        go_wp2_with fail
        refine (digit_any s[k] w).mono ?_
        rintro e w1 ⟨rfl, rfl⟩
        rw [HP.out]
        go_wp2
        go_ret
        exact ⟨by rw [HS.out.2 HP.out]; rfl, rfl⟩
    · have hge : ¬ (k : Int) < (s.size : Int) := by omega
      have hkm : Hid (m = k) := by show _ = _; omega
      clear hlt hk
      go_wp2
      go_ret
      exact ⟨by rw [hkm.out]; rfl, rfl⟩

theorem span_space (s : ByteArray) (w : World) (hs : s.size ≤ 9223372036854775806) :
    Calls Tryd.prog 29 #[.string s, .func (.func 32) #[] #[]] w fun e w' => e = .returned (.int .i64 (span isSpace s.data.toList)) ∧ w = w' := by
  have hsp := span_le isSpace s.data.toList
  have hL : s.data.toList.length = s.size := by simp
  rw [hL] at hsp
  obtain ⟨m, hm⟩ : ∃ m, m = span isSpace s.data.toList := ⟨_, rfl⟩
  rw [← hm]
  rw [← hm] at hsp
  have HM := Lib.hid hm; clear hm hL
  go_enter Tryd.func29, Tryd.ntmps29
  go_wp2
  go_loop [5] (fun i => ∃ k : Nat, k ≤ m ∧ i = .int .i64 k) (fun i => s.size - (intOf i).toNat)
  case atStart => exact ⟨0, Nat.zero_le _, rfl⟩
  case round =>
    obtain ⟨k, hk, rfl⟩ := hrel
    by_cases hlt : k < s.size
    · have hlt' : (k : Int) < (s.size : Int) := by omega
      have hst := span_snoc isSpace s.data.toList k (by simpa using hlt) (by rw [← HM.out]; exact hk)
      have hget : s.data.toList[k]'(by simpa using hlt) = s[k] := rfl
      rw [hget, ← HM.out] at hst
      have HS := Lib.hid hst; clear hst hget
      cases hp : isSpace s[k] with
      | true =>
        have HP := Lib.hid hp; clear hp
        go_wp2_with fail
        refine (space_any s[k] w).mono ?_
        rintro e w1 ⟨rfl, rfl⟩
        rw [HP.out]
        go_wp2
        go_round
        case rel => exact ⟨k + 1, HS.out.1 HP.out, by go_num⟩
        case measure => simp [intOf]; omega
      | false =>
        have HP := Lib.hid hp; clear hp
        go_wp2_with fail
        refine (space_any s[k] w).mono ?_
        rintro e w1 ⟨rfl, rfl⟩
        rw [HP.out]
        go_wp2
        go_ret
        exact ⟨by rw [HS.out.2 HP.out]; rfl, rfl⟩
    · have hge : ¬ (k : Int) < (s.size : Int) := by omega
      have hkm : Hid (m = k) := by show _ = _; omega
      clear hlt hk
      go_wp2
      go_ret
      exact ⟨by rw [hkm.out]; rfl, rfl⟩

theorem span_lf (s : ByteArray) (w : World) (hs : s.size ≤ 9223372036854775806) :
    Calls Tryd.prog 29 #[.string s, .func (.func 33) #[] #[]] w fun e w' => e = .returned (.int .i64 (span notLf s.data.toList)) ∧ w = w' := by
  have hsp := span_le notLf s.data.toList
  have hL : s.data.toList.length = s.size := by simp
  rw [hL] at hsp
  obtain ⟨m, hm⟩ : ∃ m, m = span notLf s.data.toList := ⟨_, rfl⟩
  rw [← hm]
  rw [← hm] at hsp
  have HM := Lib.hid hm; clear hm hL
  go_enter Tryd.func29, Tryd.ntmps29
  go_wp2
  go_loop [5] (fun i => ∃ k : Nat, k ≤ m ∧ i = .int .i64 k) (fun i => s.size - (intOf i).toNat)
  case atStart => exact ⟨0, Nat.zero_le _, rfl⟩
  case round =>
    obtain ⟨k, hk, rfl⟩ := hrel
    by_cases hlt : k < s.size
    · have hlt' : (k : Int) < (s.size : Int) := by omega
      have hst := span_snoc notLf s.data.toList k (by simpa using hlt) (by rw [← HM.out]; exact hk)
      have hget : s.data.toList[k]'(by simpa using hlt) = s[k] := rfl
      rw [hget, ← HM.out] at hst
      have HS := Lib.hid hst; clear hst hget
      cases hp : notLf s[k] with
      | true =>
        have HP := Lib.hid hp; clear hp
        go_wp2_with fail
        refine (notlf_any s[k] w).mono ?_
        rintro e w1 ⟨rfl, rfl⟩
        rw [HP.out]
        go_wp2
        go_round
        case rel => exact ⟨k + 1, HS.out.1 HP.out, by go_num⟩
        case measure => simp [intOf]; omega
      | false =>
        have HP := Lib.hid hp; clear hp
        go_wp2_with fail
        refine (notlf_any s[k] w).mono ?_
        rintro e w1 ⟨rfl, rfl⟩
        rw [HP.out]
        go_wp2
        go_ret
        exact ⟨by rw [HS.out.2 HP.out]; rfl, rfl⟩
    · have hge : ¬ (k : Int) < (s.size : Int) := by omega
      have hkm : Hid (m = k) := by show _ = _; omega
      clear hlt hk
      go_wp2
      go_ret
      exact ⟨by rw [hkm.out]; rfl, rfl⟩

end Go.Proofs.YtapkfblkghoknaaDoor
