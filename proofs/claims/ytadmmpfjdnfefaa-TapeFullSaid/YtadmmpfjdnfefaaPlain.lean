/-
  Plain laws of the tape's two lists: an operation and its inverse.
-/
import Derived.Test.YtadmmpfjdnfefaaDo
namespace Go.Proofs.Ytadmmpfjdnfefaa

theorem emptyE_ne {zs : List Int} : emptyE zs = 0 ↔ zs ≠ [] := by
  unfold emptyE
  cases zs <;> simp
theorem fullE_eq {zs : List Int} : fullE zs = 0 ↔ zs.length < 4096 := by
  unfold fullE
  split
  · constructor
    · intro h; exact absurd h (by decide)
    · omega
  · exact ⟨fun _ => by omega, fun _ => rfl⟩

/-- An operation that fails answers 0 and changes nothing. -/
theorem op_fails {I O : List Int} {o : Op2} (h : resE I O o ≠ 0) : resN I O o = 0 ∧ nextI I o = I ∧ nextO O o = O := by
  obtain ⟨q, n⟩ := o
  unfold resE at h
  unfold resN nextI nextO
  dsimp only at h ⊢
  by_cases h1 : q = 1
  · rw [if_pos h1] at h
    rw [if_pos h1, if_pos h1, if_pos h1]
    have : I = [] := by
      cases I with
      | nil => rfl
      | cons a l => exact absurd (emptyE_ne.2 (by simp)) h
    subst this
    exact ⟨rfl, rfl, rfl⟩
  rw [if_neg h1] at h
  rw [if_neg h1, if_neg h1, if_neg h1]
  by_cases h2 : q = 2
  · rw [if_pos h2] at h
    rw [if_pos h2, if_pos h2, if_pos h2]
    have hl : ¬ I.length < 4096 := fun hl => h (fullE_eq.2 hl)
    exact ⟨rfl, by unfold pushF; rw [if_pos (by omega)], rfl⟩
  rw [if_neg h2] at h
  rw [if_neg h2, if_neg h2, if_neg h2]
  by_cases h3 : q = 3
  · rw [if_pos h3] at h
    rw [if_pos h3, if_pos h3]
    have hl : ¬ O.length < 4096 := fun hl => h (fullE_eq.2 hl)
    exact ⟨rfl, rfl, by unfold pushB; rw [if_pos (by omega)]⟩
  rw [if_neg h3] at h
  rw [if_neg h3, if_neg h3]
  have : O = [] := by
    cases O with
    | nil => rfl
    | cons a l => exact absurd (emptyE_ne.2 (by simp)) h
  subst this
  exact ⟨rfl, rfl, rfl⟩

theorem pushF_tail {z : Int} {I : List Int} (h : (z :: I).length ≤ 4096) : pushF I z = z :: I := by
  unfold pushF
  rw [if_neg (by simp only [List.length_cons] at h; omega)]
theorem pushB_last {O : List Int} (hn : O ≠ []) (h : O.length ≤ 4096) : pushB O.dropLast (lastN O) = O := by
  unfold pushB
  have := List.length_pos_iff.2 hn
  rw [if_neg (by rw [List.length_dropLast]; omega)]
  unfold lastN
  rw [List.getLastD_eq_getLast?, List.getLast?_eq_some_getLast hn]
  exact List.dropLast_concat_getLast hn

/-- What the inverse answers behind an operation that succeeded. -/
def movedN (o : Op2) : Int := if o.kind = 2 then o.n else if o.kind = 3 then o.n else 0

theorem op_undone {I O : List Int} {o : Op2} (hI : I.length ≤ 4096) (hO : O.length ≤ 4096) (h : resE I O o = 0) :
    let o' := invOp o (resN I O o)
    resE (nextI I o) (nextO O o) o' = 0 ∧ resN (nextI I o) (nextO O o) o' = movedN o ∧ nextI (nextI I o) o' = I ∧ nextO (nextO O o) o' = O := by
  obtain ⟨q, n⟩ := o
  by_cases h1 : q = 1
  · subst h1
    have hn : I ≠ [] := emptyE_ne.1 h
    cases I with
    | nil => exact absurd rfl hn
    | cons z I =>
      refine ⟨fullE_eq.2 ?_, rfl, pushF_tail hI, rfl⟩
      simp only [List.length_cons] at hI
      show I.length < 4096
      omega
  by_cases h2 : q = 2
  · subst h2
    have hl : I.length < 4096 := fullE_eq.1 h
    have e : nextI I ⟨2, n⟩ = n :: I := by show pushF I n = _; unfold pushF; rw [if_neg (by omega)]
    intro o'
    rw [e]
    exact ⟨rfl, rfl, rfl, rfl⟩
  by_cases h3 : q = 3
  · subst h3
    have hl : O.length < 4096 := fullE_eq.1 h
    have e : nextO O ⟨3, n⟩ = O ++ [n] := by show pushB O n = _; unfold pushB; rw [if_neg (by omega)]
    intro o'
    rw [e]
    refine ⟨emptyE_ne.2 (by simp), ?_, rfl, ?_⟩
    · show lastN (O ++ [n]) = n
      unfold lastN; simp
    · show (O ++ [n]).dropLast = O
      simp
  · have e1 : resE I O ⟨q, n⟩ = emptyE O := by simp only [resE, if_neg h1, if_neg h2, if_neg h3]
    have e2 : resN I O ⟨q, n⟩ = lastN O := by simp only [resN, if_neg h1, if_neg h2, if_neg h3]
    have e3 : nextI I ⟨q, n⟩ = I := by simp only [nextI, if_neg h1, if_neg h2]
    have e4 : nextO O ⟨q, n⟩ = O.dropLast := by simp only [nextO, if_neg h1, if_neg h2, if_neg h3]
    have e5 : ∀ m, invOp ⟨q, n⟩ m = ⟨3, m⟩ := fun m => by simp only [invOp, if_neg h1, if_neg h2, if_neg h3]
    have e6 : movedN ⟨q, n⟩ = 0 := by simp only [movedN, if_neg h2, if_neg h3]
    rw [e1] at h
    have hn := emptyE_ne.1 h
    have := List.length_pos_iff.2 hn
    intro o'
    have eo : o' = ⟨3, lastN O⟩ := by show invOp _ _ = _; rw [e5, e2]
    rw [e3, e4, e6, eo]
    exact ⟨fullE_eq.2 (by rw [List.length_dropLast]; omega), rfl, rfl, pushB_last hn hO⟩

theorem next_le {I O : List Int} (o : Op2) (hI : I.length ≤ 4096) (hO : O.length ≤ 4096) : (nextI I o).length ≤ 4096 ∧ (nextO O o).length ≤ 4096 := by
  unfold nextI nextO
  constructor
  · split
    · exact tail_le hI
    · split
      · exact pushF_le _ hI
      · exact hI
  · split
    · exact hO
    · split
      · exact hO
      · split
        · exact pushB_le _ hO
        · exact dropLast_le hO

end Go.Proofs.Ytadmmpfjdnfefaa
