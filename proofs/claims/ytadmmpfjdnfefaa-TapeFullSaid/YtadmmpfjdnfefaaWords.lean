/-
  Words on worlds for the tape's proofs: what stays as it was outside a footprint (Keeps), a slice of ints that a call owns (Row), a slice of ints that reads as a list (Reads). No program in sight.
-/
import Derived.WalkKit
import Derived.Laws.IdiomCopy
import Derived.Deep.Draws
namespace Go.Proofs.Ytadmmpfjdnfefaa
open Go.RowKit

def num64 (z : Int) : Value := .int .i64 z
def nums64 (zs : List Int) : List Value := zs.map (Value.int .i64)

/-- Outside the blocks S the world w' is as w was. -/
structure Keeps (S : Nat → Prop) (w w' : World) : Prop where
  os : w'.os = w.os
  tape : w'.tape = w.tape
  output : w'.output = w.output
  size : w.heap.size ≤ w'.heap.size
  block : ∀ k, k < w.heap.size → ¬ S k → w'.heap[k]? = w.heap[k]?

theorem Keeps.refl (S : Nat → Prop) (w : World) : Keeps S w w := ⟨rfl, rfl, rfl, Nat.le_refl _, fun _ _ _ => rfl⟩
theorem Keeps.trans {S T : Nat → Prop} {a b c : World} (h : Keeps S a b) (k : Keeps T b c) (hT : ∀ i, i < a.heap.size → T i → S i) : Keeps S a c :=
  ⟨k.os.trans h.os, k.tape.trans h.tape, k.output.trans h.output, Nat.le_trans h.size k.size, fun i hi hS => (k.block i (Nat.lt_of_lt_of_le hi h.size) (fun t => hS (hT i hi t))).trans (h.block i hi hS)⟩
theorem Keeps.mono {S T : Nat → Prop} {a b : World} (h : Keeps S a b) (hT : ∀ i, i < a.heap.size → S i → T i) : Keeps T a b :=
  ⟨h.os, h.tape, h.output, h.size, fun i hi hn => h.block i hi (fun s => hn (hT i hi s))⟩
theorem Keeps.drewN {S : Nat → Prop} {a b : World} (h : Keeps S a b) (n : Nat) : Keeps S a (b.drewN n) := ⟨h.os, h.tape, h.output, h.size, h.block⟩
theorem Keeps.drew {S : Nat → Prop} {a b : World} (h : Keeps S a b) : Keeps S a b.drew := ⟨h.os, h.tape, h.output, h.size, h.block⟩
theorem Keeps.alloc {S : Nat → Prop} {a b : World} (h : Keeps S a b) (o : Obj) : Keeps S a (b.alloc o) :=
  ⟨h.os, h.tape, h.output, by have := h.size; simp; omega, fun i hi hS => (Below.heap_alloc b o i (Nat.lt_of_lt_of_le hi h.size)).trans (h.block i hi hS)⟩
theorem Keeps.setCell {S : Nat → Prop} {a b : World} (h : Keeps S a b) (p : Addr) (u : Value) (hp : p.block < a.heap.size → S p.block) : Keeps S a (b.setCell p u) :=
  ⟨h.os, h.tape, h.output, by have := h.size; simp; omega, fun i hi hS => (Below.heap_setCell b p u i (fun e => hS (e ▸ hp (e ▸ hi)))).trans (h.block i hi hS)⟩
theorem Keeps.setCells {S : Nat → Prop} {a : World} (g : Nat) (hp : g < a.heap.size → S g) : ∀ (vs : List Value) (o : Nat) {b : World}, Keeps S a b → Keeps S a (b.setCells g o vs)
  | [], _, _, h => h
  | v :: r, o, _, h => Keeps.setCells g hp r (o + 1) (h.setCell ⟨g, o, none⟩ v hp)
theorem Keeps.of_below {B : Nat} {a b : World} (h : Below B a b) : Keeps (fun k => B ≤ k) a b := ⟨h.os, h.tape, h.output, h.size, fun i _ hS => h.block i (by omega)⟩
theorem Keeps.of_new {S : Nat → Prop} {a b : World} (h : Below a.heap.size a b) : Keeps S a b := ⟨h.os, h.tape, h.output, h.size, fun i hi _ => h.block i hi⟩
theorem Keeps.below {S : Nat → Prop} {B : Nat} {a b : World} (h : Keeps S a b) (hB : ∀ k, k < B → ¬ S k) (hs : B ≤ a.heap.size) : Below B a b :=
  ⟨h.os, h.tape, h.output, h.size, fun k hk => h.block k (by omega) (hB k hk)⟩
theorem Keeps.cell {S : Nat → Prop} {a b : World} (h : Keeps S a b) {x : Addr} {v : Value} (hc : a.cell? x = some v) (hx : ¬ S x.block) : b.cell? x = some v :=
  (World.cell?_of_block (h.block x.block (World.block_lt_of_cell? a x hc) hx)).trans hc

theorem size_setCells (b : Nat) : ∀ (vs : List Value) (o : Nat) (w : World), (w.setCells b o vs).heap.size = w.heap.size
  | [], _, _ => rfl
  | v :: r, o, w => by rw [World.setCells, size_setCells b r, World.size_setCell]

theorem heap_setCell_same {w : World} {p : Addr} (hs : p.spot = none) {cur : Array Value} {e : TypeId} {f : Nat × Nat} (h : w.heap[p.block]? = some (.cells cur e f)) (u : Value) :
    (w.setCell p u).heap[p.block]? = some (.cells (cur.setIfInBounds p.off u) e f) := by
  simp [World.setCell, Array.getElem?_modify, h, hs]

theorem heap_setCells {b : Nat} {e : TypeId} {f : Nat × Nat} : ∀ (vs : List Value) (o : Nat) (w : World) (cur : Array Value), w.heap[b]? = some (.cells cur e f) →
    ∃ cur', (w.setCells b o vs).heap[b]? = some (.cells cur' e f) ∧ cur'.size = cur.size ∧ ∀ j, cur'[j]? = if o ≤ j ∧ j < o + vs.length ∧ j < cur.size then vs[j - o]? else cur[j]?
  | [], o, w, cur, h => ⟨cur, h, rfl, fun j => by rw [if_neg (by simp; omega)]⟩
  | v :: r, o, w, cur, h => by
    obtain ⟨cur', h1, h2, h3⟩ := heap_setCells (e := e) (f := f) r (o + 1) (w.setCell ⟨b, o, none⟩ v) _ (heap_setCell_same (p := ⟨b, o, none⟩) rfl h v)
    refine ⟨cur', h1, by rw [h2]; simp, fun j => ?_⟩
    rw [h3 j]
    simp only [Array.size_setIfInBounds, List.length_cons]
    by_cases hj : o + 1 ≤ j ∧ j < o + 1 + r.length ∧ j < cur.size
    · rw [if_pos hj, if_pos (by omega)]
      obtain ⟨d, rfl⟩ : ∃ d, j = o + 1 + d := ⟨j - (o + 1), by omega⟩
      rw [show o + 1 + d - (o + 1) = d by omega, show o + 1 + d - o = d + 1 by omega]
      rfl
    · rw [if_neg hj, Array.getElem?_setIfInBounds]
      by_cases he : o = j
      · subst he
        rw [if_pos rfl]
        by_cases hb : o < cur.size
        · rw [if_pos hb, if_pos (by omega)]; simp
        · rw [if_neg hb, if_neg (by omega), Array.getElem?_eq_none (by omega)]
      · rw [if_neg he, if_neg (by omega)]

theorem cell_of_block {w : World} {g j : Nat} {cur : Array Value} {e : TypeId} {f : Nat × Nat} (h : w.heap[g]? = some (.cells cur e f)) : w.cell? ⟨g, j, none⟩ = cur[j]? := by simp [World.cell?, h]
theorem free_of_block {w : World} {g j : Nat} {cur : Array Value} {e : TypeId} (h : w.heap[g]? = some (.cells cur e (0, 0))) : w.frozen? ⟨g, j, none⟩ = false := by simp [World.frozen?, h]
theorem lt_of_block' {w : World} {g : Nat} {o : Obj} (h : w.heap[g]? = some o) : g < w.heap.size := (Array.getElem?_eq_some_iff.1 h).1

/-- A slice of ints that a call owns: nil, or the head of a block of its own. -/
def Row (w : World) (v : Value) (zs : List Int) : Prop :=
  (v = .slice none 0 0 ∧ zs = []) ∨ ∃ g c cur, v = .slice (some ⟨g, 0, none⟩) zs.length c ∧ w.heap[g]? = some (.cells cur 3 (0, 0)) ∧ cur.size = c ∧ zs.length ≤ c ∧ c ≤ maxLen ∧ ∀ j, j < zs.length → cur[j]? = some (.int .i64 (zs.getD j 0))

theorem Row.nil (w : World) : Row w (.slice none 0 0) [] := .inl ⟨rfl, rfl⟩
theorem Row.lt {w : World} {v : Value} {zs : List Int} (h : Row w v zs) (k : Nat) (hk : v.ownBlock = some k) : k < w.heap.size := by
  rcases h with ⟨rfl, _⟩ | ⟨g, c, cur, rfl, hh, _⟩
  · simp [Value.ownBlock] at hk
  · have : g = k := by simpa [Value.ownBlock] using hk
    exact this ▸ lt_of_block' hh
theorem Row.kept {S : Nat → Prop} {w w' : World} {v : Value} {zs : List Int} (h : Row w v zs) (hk : Keeps S w w') (hn : ∀ k, v.ownBlock = some k → ¬ S k) : Row w' v zs := by
  rcases h with ⟨rfl, rfl⟩ | ⟨g, c, cur, rfl, hh, hr⟩
  · exact .inl ⟨rfl, rfl⟩
  · exact .inr ⟨g, c, cur, rfl, (hk.block g (lt_of_block' hh) (hn g rfl)).trans hh, hr⟩
theorem Row.of_owns {w : World} {base : Nat} {v : Value} {n : Nat} {zs : List Int} (h : w.ownsRow base 3 1 v n (zs.map (Value.int .i64))) : Row w v zs ∧ n = zs.length ∧ ∀ k, v.ownBlock = some k → base ≤ k := by
  obtain ⟨hl, h⟩ := h
  have hn : n = zs.length := by simpa using hl.symm
  subst hn
  rcases h with ⟨rfl, h0⟩ | ⟨g, c, cur, rfl, hb, hh, hc, hm, hsz, ht⟩
  · exact ⟨.inl ⟨rfl, List.length_eq_zero_iff.1 h0⟩, rfl, fun k hk => by simp [Value.ownBlock] at hk⟩
  · refine ⟨.inr ⟨g, c, cur, rfl, hh, by simpa using hsz, hc, hm, fun j hj => ?_⟩, rfl, fun k hk => ?_⟩
    · have e := congrArg (fun l : List Value => l[j]?) ht
      simp only [Nat.mul_one, List.getElem?_take, if_pos hj, List.getElem?_map, Array.getElem?_toList] at e
      rw [e, List.getElem?_eq_getElem hj]
      simp [List.getD, List.getElem?_eq_getElem hj]
    · have : g = k := by simpa [Value.ownBlock] using hk
      omega

/-- A slice of ints that reads as a list, wherever it lies. -/
def Reads (w : World) (v : Value) (zs : List Int) : Prop :=
  ∃ A c, v = .slice A zs.length c ∧ zs.length ≤ c ∧ c ≤ maxLen ∧ (A = none → c = 0) ∧ ∀ a, A = some a → ∀ j, j < zs.length → w.cell? (a.add j) = some (.int .i64 (zs.getD j 0))

/-- The block that a reading leans on: none where the list is empty. -/
def blk : Value → Option Nat
  | .slice (some a) (_ + 1) _ => some a.block
  | _ => none

theorem add_block (a : Addr) (j : Nat) : (a.add j).block = a.block := by unfold Addr.add; split <;> rfl

theorem Row.reads {w : World} {v : Value} {zs : List Int} (h : Row w v zs) : Reads w v zs := by
  rcases h with ⟨rfl, rfl⟩ | ⟨g, c, cur, rfl, hh, hsz, hc, hm, hr⟩
  · exact ⟨none, 0, rfl, Nat.le_refl _, Nat.zero_le _, fun _ => rfl, fun a ha => by cases ha⟩
  · refine ⟨some ⟨g, 0, none⟩, c, rfl, hc, hm, (fun h => by cases h), fun a ha j hj => ?_⟩
    injection ha with ha
    subst ha
    have e : (⟨g, 0, none⟩ : Addr).add j = ⟨g, j, none⟩ := by unfold Addr.add; split <;> simp_all
    rw [e, cell_of_block hh]
    exact hr j hj
theorem Reads.lt {w : World} {v : Value} {zs : List Int} (h : Reads w v zs) (k : Nat) (hk : blk v = some k) : k < w.heap.size := by
  obtain ⟨A, c, rfl, _, _, _, hr⟩ := h
  match A, zs, hk, hr with
  | some a, z :: zs, hk, hr =>
    have hc := hr a rfl 0 (by simp)
    have := World.block_lt_of_cell? w _ hc
    rw [add_block] at this
    have e : a.block = k := by simpa [blk] using hk
    omega
theorem Reads.kept {S : Nat → Prop} {w w' : World} {v : Value} {zs : List Int} (h : Reads w v zs) (hk : Keeps S w w') (hn : ∀ k, blk v = some k → ¬ S k) : Reads w' v zs := by
  obtain ⟨A, c, rfl, h1, h2, h3, hr⟩ := h
  refine ⟨A, c, rfl, h1, h2, h3, fun a ha j hj => ?_⟩
  subst ha
  refine hk.cell (hr a rfl j hj) ?_
  rw [add_block]
  refine hn _ ?_
  match zs, hj with
  | z :: zs, _ => simp [blk]
theorem blk_own {v : Value} {k : Nat} (h : blk v = some k) : v.ownBlock = some k := by
  match v, h with
  | .slice (some a) (n + 1) c, h => simpa [blk, Value.ownBlock] using h

end Go.Proofs.Ytadmmpfjdnfefaa
