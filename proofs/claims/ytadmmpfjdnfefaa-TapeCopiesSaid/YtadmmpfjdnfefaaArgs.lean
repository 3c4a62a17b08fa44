/-
  The arguments as data: slices of ints, an operation by value, slices of operations.
-/
import Derived.Test.YtadmmpfjdnfefaaAwake
import Derived.ProofKit
import Derived.SizedLaws
import Derived.Deep.Slices
import Derived.Deep.Fields
import Derived.ChangeSame
import Derived.Lib.SmallJoins
namespace Go.Proofs.Ytadmmpfjdnfefaa
open Go.RowKit Go.ChangeShapes Go.WideShapes Go.Deep Go.Joins

theorem Try.own : ownKnob Try.prog.godebug = none := by kernel_rfl
theorem Try.laidOut : laidOutB Try.prog = true := by kernel_rfl
theorem Try.cells3 : Try.prog.cellsOf 3 = 1 := by kernel_rfl
theorem Try.cells37 : Try.prog.cellsOf 37 = 2 := by kernel_rfl

/-- A slice of operations that reads as a list. -/
def ReadsOps (w : World) (v : Value) (l : List Op2) : Prop :=
  ∃ A c, v = .slice A l.length c ∧ l.length ≤ c ∧ c ≤ maxLen ∧ (A = none → c = 0) ∧ ∀ a, A = some a → ∀ j o, l[j]? = some o → w.cell? (a.add (2 * j)) = some (.int .i64 o.kind) ∧ w.cell? (a.add (2 * j + 1)) = some (.int .i64 o.n)

section
variable {H : Type} {enc : TypeId × Value → H} {W : World} {base : Nat} {spare : Nat → Bool} {held : Bool}

theorem args_ints {r : Reach} {b0 : Nat} {v : Value} {d : DataW H} {p : List MemPlace} (hv : Value.okWide Try.prog W r b0 22 v) (h : DataW.Trod enc Try.prog W base spare held 22 v d p) : ∃ zs, Reads W v zs := by
  obtain ⟨a0, len, cap, rfl⟩ := okWide_slice Try.underlying22 hv
  obtain ⟨fuel, hf⟩ := h
  rcases open_ints Try.underlying22 Try.underlying3 Try.cells3 hf with ⟨hcs, _⟩ | ⟨a, len', cap', zs, hcs, _, hl, hm, hz, _, hcell, _⟩
  · simp [Value.cells] at hcs
    obtain ⟨rfl, rfl, rfl⟩ := hcs
    exact ⟨[], reads_nil W⟩
  · simp [Value.cells] at hcs
    obtain ⟨rfl, rfl, rfl⟩ := hcs
    have hlz : len ≤ zs.length := by rw [hz]; split <;> omega
    have hlt : (zs.take len).length = len := by rw [List.length_take]; omega
    refine ⟨zs.take len, some a, cap, by rw [hlt], by omega, hm, (fun h => by cases h), fun a' ha j hj => ?_⟩
    injection ha with ha
    subst ha
    rw [hcell j (by omega)]
    simp only [List.getD_eq_getElem?_getD, List.getElem?_take, if_pos (show j < len by omega)]

/-- A slice of ints that was read is no longer than its weight allows. -/
theorem sized_reads {ts : List TypeId} {ds : List (DataW H)} {j : Nat} (hsz : (DataW.weightsEach Try.prog ts ds).all (· ≤ reachBytes) = true) (ht : ts[j]? = some 22) {v : Value} {d : DataW H} {p : List MemPlace} (hd : ds[j]? = some d)
    (h : DataW.Trod enc Try.prog W base spare held 22 v d p) {zs : List Int} (hr : Reads W v zs) : zs.length * 8 ≤ 140737488351232 := by
  obtain ⟨A, c, rfl, hlc, _, hA, _⟩ := hr
  obtain ⟨fuel, hf⟩ := h
  rcases open_ints Try.underlying22 Try.underlying3 Try.cells3 hf with ⟨hcs, _⟩ | ⟨a, len', cap', ys, hcs, _, hl, _, hz, hx, _, _⟩
  · simp [Value.cells] at hcs
    omega
  · simp [Value.cells] at hcs
    obtain ⟨rfl, rfl, rfl⟩ := hcs
    obtain ⟨rfl, _⟩ := Prod.mk.inj hx
    have z := sized_slice hsz ht hd Try.underlying22
    rw [show Try.prog.bytesOf 3 = 8 from by kernel_rfl] at z
    have hly : zs.length ≤ ys.length := by rw [hz]; split <;> omega
    simp only [lits, List.length_map, List.length_take, List.length_drop, reachBytes] at z
    omega

theorem args_op {r : Reach} {b0 : Nat} {v : Value} {d : DataW H} {p : List MemPlace} (hv : Value.okWide Try.prog W r b0 37 v) (h : DataW.Trod enc Try.prog W base spare held 37 v d p) : ∃ o, v = opV o := by
  obtain ⟨c0, c1, y0, y1, m, rfl, _, _, hy0, hy1⟩ := open_agg2 Try.underlying37 (by kernel_rfl) Try.cells37 hv h
  obtain ⟨a, e0, _, _⟩ := DataW.trod_int Try.underlying3 hy0
  obtain ⟨b, e1, _, _⟩ := DataW.trod_int Try.underlying3 hy1
  simp at e0 e1
  subst e0 e1
  exact ⟨⟨a, b⟩, rfl⟩

theorem args_int {r : Reach} {b0 : Nat} {v : Value} {d : DataW H} {p : List MemPlace} (hv : Value.okWide Try.prog W r b0 3 v) (h : DataW.Trod enc Try.prog W base spare held 3 v d p) : ∃ n, v = .int .i64 n := by
  obtain ⟨x, rfl, _⟩ := open_int Try.underlying3 hv h
  exact ⟨x, rfl⟩
theorem args_u8 {r : Reach} {b0 : Nat} {v : Value} {d : DataW H} {p : List MemPlace} (hv : Value.okWide Try.prog W r b0 5 v) (h : DataW.Trod enc Try.prog W base spare held 5 v d p) : ∃ n, v = .int .u8 n ∧ 0 ≤ n ∧ n ≤ 255 := by
  obtain ⟨x, rfl, _, _, wx⟩ := open_int Try.underlying5 hv h
  refine ⟨x, rfl, ?_⟩
  have h1 : IntKind.u8.min = 0 := rfl
  have h2 : IntKind.u8.max = 255 := rfl
  simp only [Lit.wf, Bool.and_eq_true, decide_eq_true_eq] at wx
  omega

theorem args_ops {r : Reach} {b0 : Nat} {v : Value} {d : DataW H} {p : List MemPlace} (hv : Value.okWide Try.prog W r b0 32 v) (h : DataW.Trod enc Try.prog W base spare held 32 v d p) : ∃ l, ReadsOps W v l := by
  obtain ⟨a0, len, cap, rfl⟩ := okWide_slice Try.underlying32 hv
  obtain ⟨fuel, hf⟩ := h
  rcases open_slice Try.underlying32 hf with ⟨hcs, _⟩ | ⟨a, len', cap', m, n, D, Pl, hcs, _, hl, hm, hmm, _, hi⟩
  · simp [Value.cells] at hcs
    obtain ⟨rfl, rfl, rfl⟩ := hcs
    exact ⟨[], none, 0, rfl, Nat.le_refl _, Nat.zero_le _, (fun _ => rfl), fun a ha => by cases ha⟩
  · simp [Value.cells] at hcs
    obtain ⟨rfl, rfl, rfl⟩ := hcs
    have hlm : len ≤ m := by rw [hmm]; split <;> omega
    have each : ∀ i, i < m → ∃ o : Op2, W.cell? (a.add (2 * i)) = some (.int .i64 o.kind) ∧ W.cell? (a.add (2 * i + 1)) = some (.int .i64 o.n) := fun i him => by
      obtain ⟨cs', hc, ht'⟩ := hi i him
      rw [Try.cells37] at hc
      obtain ⟨_, hcl, hat⟩ := World.cells?_some hc
      obtain ⟨y0, y1, n', hx, _, h0, h1⟩ := trod_struct2 Try.underlying37 ht'
      match cs', hcl with
      | [u0, u1], _ =>
        have g0 := hat 0 (by simp)
        have g1 := hat 1 (by simp)
        rw [Go.Deep.add_add] at g0 g1
        obtain ⟨x, e0, _, _⟩ := DataW.trod_int Try.underlying3 h0
        obtain ⟨y, e1, _, _⟩ := DataW.trod_int Try.underlying3 h1
        have e0' : u0 = .int .i64 x := by simpa [Try.cells3] using e0
        have e1' : u1 = .int .i64 y := by simpa [Try.cells3] using e1
        subst e0' e1'
        refine ⟨⟨x, y⟩, ?_, ?_⟩
        · rw [Nat.mul_comm]; simpa using g0
        · rw [Nat.mul_comm]; simpa using g1
    have build : ∀ k, k ≤ m → ∃ l : List Op2, l.length = k ∧ ∀ j o, l[j]? = some o → W.cell? (a.add (2 * j)) = some (.int .i64 o.kind) ∧ W.cell? (a.add (2 * j + 1)) = some (.int .i64 o.n) := fun k => by
      induction k with
      | zero => exact fun _ => ⟨[], rfl, fun j o h => by simp at h⟩
      | succ k ih =>
        intro hk
        obtain ⟨l, hll, hg⟩ := ih (by omega)
        obtain ⟨o, ho⟩ := each k (by omega)
        refine ⟨l ++ [o], by simp [hll], fun j o' hj => ?_⟩
        by_cases hjl : j < l.length
        · rw [List.getElem?_append_left hjl] at hj; exact hg j o' hj
        · have hj2 : j < (l ++ [o]).length := (List.getElem?_eq_some_iff.1 hj).1
          rw [List.length_append, List.length_singleton] at hj2
          obtain rfl : j = k := by omega
          rw [List.getElem?_append_right (by omega), hll, Nat.sub_self] at hj
          have : o = o' := by simpa using hj
          exact this ▸ ho
    obtain ⟨l, hll, hg⟩ := build len hlm
    exact ⟨l, some a, cap, by rw [hll], by omega, hm, (fun h => by cases h), fun a' ha => by injection ha with ha; subst ha; exact hg⟩
end

end Go.Proofs.Ytadmmpfjdnfefaa
