/-
  append onto a row of the call's own, from whatever slice of ints; a store into such a row.
-/
import Derived.Test.YtadmmpfjdnfefaaPairs
import Derived.Laws.AppendOwnNone
import Derived.OwnWalk
namespace Go.Proofs.Ytadmmpfjdnfefaa
open Go.RowKit

theorem Row.owns {w : World} {v : Value} {zs : List Int} (h : Row w v zs) (B : Nat) (hB : ∀ k, v.ownBlock = some k → B ≤ k) : w.ownsRow B 3 1 v zs.length (zs.map (Value.int .i64)) := by
  refine ⟨by simp, ?_⟩
  rcases h with ⟨rfl, rfl⟩ | ⟨g, c, cur, rfl, hh, hsz, hlc, hm, hr⟩
  · exact .inl ⟨rfl, rfl⟩
  · refine .inr ⟨g, c, cur, rfl, hB g rfl, hh, hlc, hm, by omega, ?_⟩
    apply List.ext_getElem?
    intro j
    rw [List.getElem?_take]
    by_cases hj : j < zs.length
    · rw [if_pos (by omega), Array.getElem?_toList, hr j hj, ints_getElem zs j hj]
    · rw [if_neg (by omega), List.getElem?_eq_none (by simp; omega)]

theorem Try.info3 : (Try.prog.info? 3).map (fun i => (i.zero, i.size, i.bytes)) = some (some (.int .i64 0), 1, 8) := by kernel_rfl

theorem wpList_append_reads {ops : Array Oper} {rest : List Oper} {o : Oper} {a : Act} {w : World} {Q : Exit → Act → World → Prop} (hgd : o.guard = none) (s x : Operand)
    (ho : o.op = .call { callee := .builtin .append, args := #[s, x], argTypes := #[22, 22] }) (B : Nat) (v u : Value) (zs ys : List Int) (hs : a.eval s = v) (hx : a.eval x = u) (hr : Row w v zs) (hB : ∀ k, v.ownBlock = some k → B ≤ k) (hBw : B ≤ w.heap.size)
    (hu : Reads w u ys) (hb : zs.length + ys.length ≤ 1000000)
    (h : ∀ v' w', Row w' v' (zs ++ ys) → (∀ k, v'.ownBlock = some k → B ≤ k) → Keeps (fun k => v.ownBlock = some k) w w' → wpList Try.prog ops Q rest (a.put o.dst v') w') : wpList Try.prog ops Q (o :: rest) a w := by
  obtain ⟨i0, hi, hz0, hz1, hz2⟩ := info_parts Try.info3
  obtain ⟨A, c, rfl, h1, h2, h3, hc⟩ := hu
  match A with
  | none =>
    have h0 : ys = [] := List.length_eq_zero_iff.1 (by have := h3 rfl; omega)
    have hc0 := h3 rfl
    subst h0 hc0
    refine wpList_append_own_none hgd s x 22 ho B 3 i0 1 Try.underlying22 hi v zs.length _ hs (hr.owns B hB) hx ?_
    exact h v w (by rw [List.append_nil]; exact hr) hB (Keeps.refl _ _)
  | some ad =>
    refine wpList_append_own w hgd s x 22 ho B 3 i0 (.int .i64 0) 1 8 Try.underlying22 hi hz0 hz1 hz2 rfl (by decide) v zs.length _ hs (hr.owns B hB) ad ys.length c (ys.map (Value.int .i64)) hx (by simp) (fun j u hj => ?_) (fun u hu => ?_) (by unfold maxLen; omega) (by omega) hBw ?_
    · obtain ⟨g1, rfl⟩ := getElem_ints ys j u hj
      exact hc ad rfl j g1
    · obtain ⟨z, _, rfl⟩ := List.mem_map.1 hu; rfl
    · intro v' w' hown hg _
      rw [← List.map_append] at hown
      obtain ⟨r1, _, r3⟩ := Row.of_owns hown
      exact h v' w' r1 r3 ⟨hg.os, hg.tape, hg.output, hg.size, fun k hk hn => hg.block k hk (fun e => hn e.symm)⟩

theorem own_ge {a : Addr} {n c : Nat} : ∀ k, (Value.slice (some a) n c).ownBlock = some k → a.block ≤ k := fun k h => by
  have : a.block = k := by simpa [Value.ownBlock] using h
  omega
theorem row_empty (w : World) : Row (w.alloc (.cells #[] 3)) (.slice (some ⟨w.heap.size, 0, none⟩) 0 0) [] :=
  .inr ⟨w.heap.size, 0, #[], rfl, heap_new w _, rfl, Nat.le_refl _, Nat.zero_le _, fun j hj => absurd hj (by simp)⟩

/-- Whatever is turned lies in new memory. -/
def KB (w w' : World) : Prop := Keeps (fun k => w.heap.size ≤ k) w w'
theorem KB.refl (w : World) : KB w w := Keeps.refl _ _
theorem KB.trans {w a b : World} {S : Nat → Prop} (h : KB w a) (k : Keeps S a b) (hS : ∀ i, i < w.heap.size → ¬ S i) : KB w b := Keeps.trans h k (fun i hi hs => absurd hs (hS i hi))
theorem KB.fresh {w a b : World} (h : KB w a) (k : Keeps (fun _ => False) a b) : KB w b := h.trans k (fun _ _ h => h)
theorem KB.reads {w a : World} (h : KB w a) {v : Value} {zs : List Int} (hr : Reads w v zs) : Reads a v zs := hr.kept h (fun k hk hs => by have := hr.lt k hk; omega)
theorem KB.below {w a : World} (h : KB w a) : Below w.heap.size w a := Keeps.below h (fun k hk hs => by omega) (Nat.le_refl _)

/-- A store into a row. -/
theorem Row.store {w : World} {g n c k : Nat} {zs : List Int} (h : Row w (.slice (some ⟨g, 0, none⟩) n c) zs) (hk : k < n) (z : Int) : Row (w.setCell ⟨g, k, none⟩ (.int .i64 z)) (.slice (some ⟨g, 0, none⟩) n c) (zs.set k z) := by
  rcases h with ⟨h, _⟩ | ⟨g', c', cur, e, hh, hsz, hlc, hm, hr⟩
  · cases h
  · injection e with e1 e2 e3
    injection e1 with e1
    injection e1 with e1 _ _
    subst e1 e2 e3
    refine .inr ⟨g, c, _, by rw [List.length_set], heap_setCell_same (p := ⟨g, k, none⟩) rfl hh _, by simp [hsz], by rw [List.length_set]; exact hlc, hm, fun j hj => ?_⟩
    rw [List.length_set] at hj
    rw [Array.getElem?_setIfInBounds]
    dsimp only
    by_cases hjk : k = j
    · subst hjk
      rw [if_pos rfl, if_pos (by omega)]
      simp only [List.getD_eq_getElem?_getD, List.getElem?_set, if_pos, hj, Option.getD_some]
    · rw [if_neg hjk, hr j hj]
      simp only [List.getD_eq_getElem?_getD, List.getElem?_set, if_neg hjk]
theorem Row.cell {w : World} {g n c : Nat} {zs : List Int} (h : Row w (.slice (some ⟨g, 0, none⟩) n c) zs) (k : Nat) (hk : k < n) : w.cell? ⟨g, k, none⟩ = some (.int .i64 (zs.getD k 0)) ∧ w.frozen? ⟨g, k, none⟩ = false ∧ n = zs.length := by
  rcases h with ⟨h, _⟩ | ⟨g', c', cur, e, hh, hsz, hlc, hm, hr⟩
  · cases h
  · injection e with e1 e2 e3
    injection e1 with e1
    injection e1 with e1 _ _
    subst e1 e2 e3
    exact ⟨by rw [cell_of_block hh]; exact hr k hk, free_of_block hh, rfl⟩
theorem Row.form {w : World} {v : Value} {zs : List Int} (h : Row w v zs) : (∃ g c, v = .slice (some ⟨g, 0, none⟩) zs.length c ∧ zs.length ≤ c ∧ c ≤ maxLen) ∨ (v = .slice none 0 0 ∧ zs = []) := by
  rcases h with h | ⟨g, c, cur, rfl, _, _, h1, h2, _⟩
  · exact .inr h
  · exact .inl ⟨g, c, rfl, h1, h2⟩

theorem Row.shape {w : World} {v : Value} {zs : List Int} (h : Row w v zs) : ∃ A c, v = .slice A zs.length c := by
  rcases h with ⟨rfl, rfl⟩ | ⟨g, c, cur, rfl, _⟩
  · exact ⟨_, _, rfl⟩
  · exact ⟨_, _, rfl⟩
theorem Row.head {w : World} {A : Option Addr} {n c : Nat} {zs : List Int} (h : Row w (.slice A n c) zs) (hn : 0 < n) : ∃ g, A = some ⟨g, 0, none⟩ := by
  rcases h with ⟨h, _⟩ | ⟨g, c, cur, h, _⟩
  · injection h with _ h2 _; omega
  · injection h with h1 _ _; exact ⟨g, h1⟩
theorem Keeps.store {S : Nat → Prop} {w0 w : World} {g k : Nat} {z : Value} (h : Keeps S w0 w) (hS : S g) : Keeps S w0 (w.setCell ⟨g, k, none⟩ z) := h.setCell _ _ (fun _ => hS)

end Go.Proofs.Ytadmmpfjdnfefaa
