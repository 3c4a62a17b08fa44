/-
  The argument of LexerSolid as data: a slice of tokens that came in reads as a list of tokens.
-/
import Derived.Test.YtapkfblkghoknaaDoorPX0
import Derived.ProofKit
import Derived.Deep.Slices
import Derived.Deep.Fields
import Derived.Lib.SmallJoins
namespace Go.Proofs.YtapkfblkghoknaaDoor
open Go.RowKit Go.ChangeShapes Go.WideShapes Go.Deep Go.Joins Go.Proofs.YtapkfblkghoknaaDoorW.PrintWords Go.Proofs.YtapkfblkghoknaaDoorW.PrintLast Go.Proofs.YtapkfblkghoknaaDoorW.PrintMore

theorem Tryd.cells33 : Tryd.prog.cellsOf 33 = 3 := by kernel_rfl
theorem Tryd.cells3' : Tryd.prog.cellsOf 3 = 1 := by kernel_rfl
theorem Tryd.cells5'' : Tryd.prog.cellsOf 5 = 1 := by kernel_rfl
theorem Tryd.cells9' : Tryd.prog.cellsOf 9 = 1 := by kernel_rfl

section
variable {H : Type} {enc : TypeId × Value → H} {W : World} {base : Nat} {spare : Nat → Bool} {held : Bool}
theorem args_toks {r : Reach} {b0 : Nat} {v : Value} {d : DataW H} {p : List MemPlace} (hv : Value.okWide Tryd.prog W r b0 23 v) (h : DataW.Trod enc Tryd.prog W base spare held 23 v d p) :
    ∃ A c, ∃ z : List PX.S33, v = .slice A z.length c ∧ Kd.C PX.k33 W A z.length z ∧ z.length ≤ c := by
  obtain ⟨a0, len, cap, rfl⟩ := okWide_slice Tryd.underlying23 hv
  obtain ⟨fuel, hf⟩ := h
  rcases open_slice Tryd.underlying23 hf with ⟨hcs, _⟩ | ⟨a, len', cap', m, n, D, Pl, hcs, _, hl, hm, hmm, _, hi⟩
  · simp [Value.cells] at hcs
    obtain ⟨rfl, rfl, rfl⟩ := hcs
    exact ⟨none, 0, [], rfl, ⟨rfl, Nat.zero_le _, fun hp => absurd hp (by simp)⟩, Nat.le_refl _⟩
  · simp [Value.cells] at hcs
    obtain ⟨rfl, rfl, rfl⟩ := hcs
    have hlm : len ≤ m := by rw [hmm]; split <;> omega
    have each : ∀ i, i < m → ∃ t : PX.S33, ∀ j u, [Value.int .u8 t.f0, .string t.f1, .int .i64 t.f2][j]? = some u → W.cell? (a.add (i * 3 + j)) = some u := fun i him => by
      obtain ⟨cs', hc, ht'⟩ := hi i him
      rw [Tryd.cells33] at hc
      obtain ⟨_, hcl, hat⟩ := World.cells?_some hc
      obtain ⟨y0, y1, y2, n', hx, _, h0, h1, h2⟩ := trod_struct3 Tryd.underlying33 ht'
      match cs', hcl with
      | [u0, u1, u2], _ =>
        have g0 := hat 0 (by simp)
        have g1 := hat 1 (by simp)
        have g2 := hat 2 (by simp)
        rw [Go.Deep.add_add] at g0 g1 g2
        obtain ⟨x, e0, _, _⟩ := DataW.trod_int Tryd.underlying5 h0
        obtain ⟨s, e1, _⟩ := DataW.trod_string Tryd.underlying9 h1
        obtain ⟨y, e2, _, _⟩ := DataW.trod_int Tryd.underlying3 h2
        have e0' : u0 = .int .u8 x := by simpa [Tryd.cells5''] using e0
        have e1' : u1 = .string s := by simpa [Tryd.cells9'] using e1
        have e2' : u2 = .int .i64 y := by simpa [Tryd.cells3'] using e2
        subst e0' e1' e2'
        refine ⟨⟨x, s, y⟩, fun j u hj => ?_⟩
        match j, hj with
        | 0, hj => simp at hj; subst hj; simpa using g0
        | 1, hj => simp at hj; subst hj; simpa using g1
        | 2, hj => simp at hj; subst hj; simpa using g2
        | j + 3, hj => simp at hj
    have build : ∀ k, k ≤ m → ∃ l : List PX.S33, l.length = k ∧ ∀ i t, l[i]? = some t → ∀ j u, [Value.int .u8 t.f0, .string t.f1, .int .i64 t.f2][j]? = some u → W.cell? (a.add (i * 3 + j)) = some u := fun k => by
      induction k with
      | zero => exact fun _ => ⟨[], rfl, fun j o h => by simp at h⟩
      | succ k ih =>
        intro hk
        obtain ⟨l, hll, hg⟩ := ih (by omega)
        obtain ⟨o, ho⟩ := each k (by omega)
        refine ⟨l ++ [o], by simp [hll], fun j o' hj => ?_⟩
        by_cases hjl : j < l.length
        · rw [List.getElem?_append_left hjl] at hj; exact hg j o' hj
        · have hj2 : j < (l ++ [o]).length := (List.getElem?_eq_some_iff.1 hj).1
          rw [List.length_append, List.length_singleton] at hj2
          obtain rfl : j = k := by omega
          rw [List.getElem?_append_right (by omega), hll, Nat.sub_self] at hj
          have : o = o' := by simpa using hj
          exact this ▸ ho
    obtain ⟨l, hll, hg⟩ := build len hlm
    refine ⟨some a, cap, l, by rw [hll], ⟨rfl, ?_, fun _ => ⟨a, rfl, fun j t hj => ⟨[.int .u8 t.f0, .string t.f1, .int .i64 t.f2], rfl, PX.k33_mk W t, fun i u hu => hg j t hj i u hu⟩⟩⟩, by omega⟩
    rw [hll]
    unfold maxLen at hm
    omega
end
end Go.Proofs.YtapkfblkghoknaaDoor
