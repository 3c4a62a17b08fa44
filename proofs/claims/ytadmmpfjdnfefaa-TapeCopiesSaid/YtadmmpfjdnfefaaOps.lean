/-
  The contracts of tape.remove and tape.insert: what they do to the list behind the pointer.
-/
import Derived.Test.YtadmmpfjdnfefaaWords
import Derived.Test.YtadmmpfjdnfefaaShelf
import Derived.WalkLawsBesides
import Derived.WalkSpells
import Derived.Outline
import Derived.Lib.Hide
namespace Go.Proofs.Ytadmmpfjdnfefaa
open Go.RowKit

theorem remove_nil (p o : Nat) (arr : Array Value) (w : World) (hp : w.heap[p]? = some (.cells arr 48 (0, 0))) (A : Option Addr) (c : Nat) (ho : arr[o]? = some (.slice A 0 c)) (i : Int) :
    Calls Try.prog 26 #[.pointer (some ⟨p, o, none⟩), .int .i64 i] w fun e w' => e = .returned (.tuple #[.int .i64 0, .int .i64 17]) ∧ w = w' := by
  have hc : w.cell? ⟨p, o, none⟩ = some (.slice A 0 c) := by rw [cell_of_block hp, ho]
  clear hp ho
  go_enter Try.func26, Try.ntmps26
  go_wp2
  go_ret2
  exact ⟨rfl, rfl⟩

/-- What an operation on the list in cell o of block p leaves. -/
def Done (w w' : World) (p o : Nat) (arr : Array Value) (v v' : Value) (zs : List Int) : Prop :=
  w'.heap[p]? = some (.cells (arr.setIfInBounds o v') 48 (0, 0)) ∧ Row w' v' zs ∧ (∀ k, v'.ownBlock = some k → v.ownBlock = some k ∨ w.heap.size ≤ k) ∧ Keeps (fun k => k = p ∨ v.ownBlock = some k) w w'

theorem done_store {w w1 : World} {p o : Nat} {arr : Array Value} {v v' : Value} {zs : List Int} (hp : w.heap[p]? = some (.cells arr 48 (0, 0))) (hk : Keeps (fun k => v.ownBlock = some k) w w1) (hvp : v.ownBlock ≠ some p)
    (hr : Row w1 v' zs) (hb : ∀ k, v'.ownBlock = some k → v.ownBlock = some k ∨ w.heap.size ≤ k) : Done w (w1.setCell ⟨p, o, none⟩ v') p o arr v v' zs := by
  have hpl := lt_of_block' hp
  have hp1 : w1.heap[p]? = some (.cells arr 48 (0, 0)) := (hk.block p hpl hvp).trans hp
  have hv'p : ∀ k, v'.ownBlock = some k → ¬ (k = p) := fun k hk' e => by
    subst e
    rcases hb k hk' with h | h
    · exact hvp h
    · omega
  exact ⟨heap_setCell_same (p := ⟨p, o, none⟩) rfl hp1 v', hr.kept (S := fun k => k = p) ((Keeps.refl _ _).setCell _ _ (fun _ => rfl)) hv'p, hb, (hk.mono (fun _ _ h => .inr h)).setCell _ _ (fun _ => .inl rfl)⟩

theorem getD_eraseIdx (zs : List Int) (i j : Nat) (_hi : i < zs.length) : (zs.eraseIdx i).getD j 0 = if j < i then zs.getD j 0 else zs.getD (j + 1) 0 := by
  simp only [List.getD_eq_getElem?_getD, List.getElem?_eraseIdx]
  split <;> rfl

theorem row_erase {w : World} {g c q : Nat} {cur : Array Value} {zs : List Int} {i : Nat} (hi : i < zs.length) (hh : w.heap[g]? = some (.cells cur 3 (0, 0))) (hsz : cur.size = c) (hlc : zs.length ≤ c) (hm : c ≤ maxLen) :
    Row ((w.drewN q).setCells g 0 (((zs.take zs.length).take i ++ (zs.take zs.length).drop (i + 1) ++ List.replicate (i + 1 - i) 0).map (Value.int .i64))) (.slice (some ⟨g, 0, none⟩) (zs.length - 1) c) (zs.eraseIdx i) := by
  have hl : (zs.eraseIdx i).length = zs.length - 1 := List.length_eraseIdx_of_lt hi
  obtain ⟨cur', h1, h2, h3⟩ := heap_setCells (((zs.take zs.length).take i ++ (zs.take zs.length).drop (i + 1) ++ List.replicate (i + 1 - i) 0).map (Value.int .i64)) 0 (w.drewN q) cur hh
  refine .inr ⟨g, c, cur', by rw [hl], h1, by rw [h2, hsz], by omega, hm, fun j hj => ?_⟩
  rw [h3 j, if_pos (by refine ⟨by omega, ?_, by omega⟩; simp; omega)]
  rw [getD_eraseIdx _ _ _ hi, List.take_length, ← List.eraseIdx_eq_take_drop_succ]
  simp only [Nat.sub_zero, List.getElem?_map]
  rw [List.getElem?_append_left (by omega)]
  rw [List.getElem?_eraseIdx]
  split
  · rw [List.getElem?_eq_getElem (by omega)]; simp [List.getD, List.getElem?_eq_getElem (show j < zs.length by omega)]
  · rw [List.getElem?_eq_getElem (by omega)]; simp [List.getD, List.getElem?_eq_getElem (show j + 1 < zs.length by omega)]

set_option maxHeartbeats 400000 in
theorem remove_some (p o i : Nat) (arr : Array Value) (w : World) (hp : w.heap[p]? = some (.cells arr 48 (0, 0))) (v : Value) (ho : arr[o]? = some v) (zs : List Int) (hrow : Row w v zs) (hi : i < zs.length) :
    Calls Try.prog 26 #[.pointer (some ⟨p, o, none⟩), .int .i64 i] w fun e w' => e = .returned (.tuple #[.int .i64 (zs.getD i 0), .int .i64 0]) ∧ ∃ v', Done w w' p o arr v v' (zs.eraseIdx i) := by
  have hc : w.cell? ⟨p, o, none⟩ = some v := by rw [cell_of_block hp, ho]
  have hf : w.frozen? ⟨p, o, none⟩ = false := free_of_block hp
  rcases hrow with ⟨rfl, rfl⟩ | ⟨g, c, cur, rfl, hh, hsz, hlc, hm, hr⟩
  · exact absurd hi (by simp)
  have hgp : g ≠ p := fun e => by rw [e, hp] at hh; injection hh with hh; injection hh with _ h2; exact absurd h2 (by decide)
  obtain ⟨z, hz⟩ : ∃ z, z = zs.getD i 0 := ⟨_, rfl⟩
  have hcell : w.cell? ⟨g, i, none⟩ = some (.int .i64 z) := by rw [cell_of_block hh, hz]; exact hr i hi
  rw [← hz]
  have HZ := Lib.hid hz; clear hz
  have hl0 : ((zs.length : Int) == 0) = false := by rw [beq_eq_false_iff_ne]; omega
  unfold maxLen at hm
  have HR := Lib.hid hr; clear hr
  have HS := Lib.hid hsz; clear hsz
  clear ho
  have HP := Lib.hid hp; clear hp
  have HH := Lib.hid hh; clear hh
  go_enter Try.func26, Try.ntmps26
  go_wp2_with fail
  rw [show ((i : Int) + 1) = ((i + 1 : Nat) : Int) from by omega]
  refine (Try.slices_Delete_int_cells g 0 zs.length c i (i + 1) zs _ (Nat.le_refl _) hlc hm (by omega) (by omega) (fun j hj => by rw [Nat.zero_add, cell_of_block HH.out]; exact HR.out j hj) (fun j _ => free_of_block HH.out)).mono ?_
  rintro e w1 ⟨rfl, q, hw1⟩
  have hd := done_store (o := o) HP.out (v := .slice (some ⟨g, 0, none⟩) zs.length c) (v' := .slice (some ⟨g, 0, none⟩) (zs.length - 1) c) (w1 := w1) (by rw [hw1]; exact Keeps.setCells g (fun _ => by simp [Value.ownBlock]) _ _ ((Keeps.refl _ w).drewN q)) (by simp [Value.ownBlock, hgp]) (by rw [hw1]; exact row_erase hi HH.out HS.out hlc hm) (fun k hk => .inl hk)
  have hc1 : w1.cell? ⟨p, o, none⟩ = some (.slice (some ⟨g, 0, none⟩) zs.length c) := by rw [hw1, World.cell?_setCells_out g _ _ _ _ (fun h _ => absurd h (Ne.symm hgp))]; exact hc
  have hf1 : w1.frozen? ⟨p, o, none⟩ = false := by rw [hw1, World.frozen?_setCells]; exact hf
  clear hw1 hc hf hcell
  have HD := Lib.hid hd; clear hd
  go_wp2
  go_ret2
  exact ⟨rfl, _, HD.out⟩

theorem insert_full (p o : Nat) (arr : Array Value) (w : World) (hp : w.heap[p]? = some (.cells arr 48 (0, 0))) (v : Value) (ho : arr[o]? = some v) (zs : List Int) (hrow : Row w v zs) (hi : 4096 ≤ zs.length) (at_ n : Int) :
    Calls Try.prog 27 #[.pointer (some ⟨p, o, none⟩), .int .i64 at_, .int .i64 n] w fun e w' => e = .returned (.int .i64 5) ∧ w = w' := by
  have hc : w.cell? ⟨p, o, none⟩ = some v := by rw [cell_of_block hp, ho]
  obtain ⟨A, c, rfl⟩ : ∃ A c, v = .slice A zs.length c := by
    rcases hrow with ⟨rfl, rfl⟩ | ⟨g, c, cur, rfl, _⟩
    · exact ⟨_, _, rfl⟩
    · exact ⟨_, _, rfl⟩
  clear hp ho hrow
  have hi' : (4096 : Int) ≤ (zs.length : Int) := by omega
  clear hi
  go_enter Try.func27, Try.ntmps27
  go_wp2
  go_ret
  exact ⟨rfl, rfl⟩

theorem heap_new (w : World) (o : Obj) : (w.alloc o).heap[w.heap.size]? = some o := by
  show (w.heap.push o)[w.heap.size]? = _
  simp
theorem getElem_ints (zs : List Int) (j : Nat) (v : Value) (h : (zs.map (Value.int .i64))[j]? = some v) : j < zs.length ∧ v = .int .i64 (zs.getD j 0) := by
  rw [List.getElem?_map] at h
  by_cases hj : j < zs.length
  · rw [List.getElem?_eq_getElem hj] at h
    exact ⟨hj, by simpa [List.getD, List.getElem?_eq_getElem hj] using h.symm⟩
  · rw [List.getElem?_eq_none (by omega)] at h
    cases h
theorem ints_getElem (zs : List Int) (j : Nat) (h : j < zs.length) : (zs.map (Value.int .i64))[j]? = some (.int .i64 (zs.getD j 0)) := by
  rw [List.getElem?_map, List.getElem?_eq_getElem h]
  simp [List.getD, List.getElem?_eq_getElem h]
theorem getD_insertIdx (zs : List Int) (i j : Nat) (n : Int) (hi : i ≤ zs.length) : (zs.insertIdx i n).getD j 0 = if j < i then zs.getD j 0 else if j = i then n else zs.getD (j - 1) 0 := by
  simp only [List.getD_eq_getElem?_getD, List.getElem?_insertIdx]
  by_cases h1 : j < i
  · rw [if_pos h1, if_pos h1]
  · rw [if_neg h1, if_neg h1]
    by_cases h2 : j = i
    · subst h2
      rw [if_pos rfl, if_pos rfl, if_pos hi]; rfl
    · rw [if_neg h2, if_neg h2]

/-- What slices.Insert leaves of the list. -/
def Inserted (w w' : World) (v v' : Value) (zs : List Int) : Prop :=
  Row w' v' zs ∧ (∀ k, v'.ownBlock = some k → v.ownBlock = some k ∨ w.heap.size ≤ k) ∧ Keeps (fun k => v.ownBlock = some k) w w'

theorem ins_any (w : World) (v : Value) (zs : List Int) (hrow : Row w v zs) (i vb : Nat) (n : Int) (hi : i ≤ zs.length) (hl : zs.length < 4096) (hvb : w.heap[vb]? = some (.cells #[.int .i64 n] 3 (0, 0))) (hne : v.ownBlock ≠ some vb) :
    Calls Try.prog 29 #[v, .int .i64 i, .slice (some ⟨vb, 0, none⟩) 1 1] w fun e w' => ∃ v', e = .returned v' ∧ Inserted w w' v v' (zs.insertIdx i n) := by
  have hil : (zs.insertIdx i n).length = zs.length + 1 := List.length_insertIdx_of_le_length hi n
  have hvs : ∀ j u, [Value.int .i64 n][j]? = some u → w.cell? ⟨vb, 0 + j, none⟩ = some u := fun j u hj => by
    rw [Nat.zero_add, cell_of_block hvb]
    match j, hj with
    | 0, hj => simpa using hj
  have h1v : ∀ u ∈ [Value.int .i64 n], u.oneCell' = true := fun u hu => by simp at hu; subst hu; rfl
  have h1c : ∀ u ∈ zs.map (Value.int .i64), u.oneCell' = true := fun u hu => by obtain ⟨z, _, rfl⟩ := List.mem_map.1 hu; rfl
  have hcl : (zs.map (Value.int .i64)).length = zs.length := List.length_map ..
  rcases hrow with ⟨rfl, rfl⟩ | ⟨g, c, cur, rfl, hh, hsz, hlc, hm, hr⟩
  · obtain rfl : i = 0 := by simpa using hi
    refine (Try.slices_Insert_int_end_grow none 0 0 vb 0 1 1 [] [.int .i64 n] w (by omega) (by omega) (by omega) (by omega) rfl rfl (fun _ => rfl) (fun a ha => by cases ha) hvs h1v).mono ?_
    rintro e w' ⟨rfl, rfl⟩
    have hc1 := grownCap_ge w (0 + 1) 0 3
    refine ⟨_, rfl, .inr ⟨w.heap.size, grownCap w (0 + 1) 0 3, _, rfl, heap_new w.drew _, ?_, by simpa using hc1, grownCap_le_maxLen _ _ _ _ (by unfold maxLen; omega), fun j hj => ?_⟩, fun k hk => .inr (by simp [Value.ownBlock] at hk; omega), (Keeps.refl _ _).drew.alloc _⟩
    · simp [size_zeroCells, Value.cells]; simp only [Nat.zero_add] at hc1; omega
    · obtain rfl : j = 0 := by simpa using hj
      rw [Array.getElem?_append_left (by simp)]
      simp
  have hgb : vb ≠ g := fun e => hne (by simp [Value.ownBlock, e])
  have hcs : ∀ j u, (zs.map (Value.int .i64))[j]? = some u → w.cell? ⟨g, 0 + j, none⟩ = some u := fun j u hj => by
    obtain ⟨h1, rfl⟩ := getElem_ints zs j u hj
    rw [Nat.zero_add, cell_of_block hh]
    exact hr j h1
  have hfz : ∀ j, w.frozen? ⟨g, j, none⟩ = false := fun j => free_of_block hh
  have hm2 := hm
  unfold maxLen at hm2
  by_cases hroom : zs.length + 1 ≤ c
  · have hsp : ∀ j, j < zs.length + 1 → (w.cell? ⟨g, 0 + j, none⟩).isSome = true := fun j hj => by
      rw [Nat.zero_add, cell_of_block hh, Array.getElem?_eq_getElem (by omega)]; rfl
    by_cases he : i = zs.length
    · subst he
      refine (Try.slices_Insert_int_end_room g 0 zs.length c vb 0 1 1 [.int .i64 n] w (by omega) hroom hm2 rfl (fun j hj => by have := hsp (zs.length + j) (by omega); rwa [← Nat.add_assoc] at this) (fun j _ => hfz _) hvs h1v).mono ?_
      rintro e w' ⟨rfl, rfl⟩
      obtain ⟨cur', h1, h2, h3⟩ := heap_setCells [.int .i64 n] (0 + zs.length) w cur hh
      refine ⟨_, rfl, .inr ⟨g, c, cur', by rw [hil], h1, by omega, by omega, hm, fun j hj => ?_⟩, fun k hk => .inl hk, Keeps.setCells g (fun _ => by simp [Value.ownBlock]) _ _ (Keeps.refl _ w)⟩
      rw [h3 j, getD_insertIdx _ _ _ _ (Nat.le_refl _)]
      by_cases hj2 : j < zs.length
      · rw [if_neg (by omega), if_pos hj2]; exact hr j hj2
      · obtain rfl : j = zs.length := by omega
        rw [if_pos (by simp; omega), if_neg (by omega), if_pos rfl]; simp
    · refine (Try.slices_Insert_int_shift g 0 zs.length c i vb 0 1 1 (zs.map (Value.int .i64)) [.int .i64 n] w (by omega) (by omega) hroom hm2 hgb hcl rfl hcs hsp (fun j _ => by rw [Nat.zero_add]; exact hfz j) hvs h1c h1v 3 3 1 c (by simp [World.shape?, hvb]) (by simp [World.shape?, hh, hsz]) (by omega) (free_of_block hvb) (free_of_block hvb)).mono ?_
      rintro e w' ⟨rfl, rfl⟩
      obtain ⟨cur1, a1, a2, a3⟩ := heap_setCells ((zs.map (Value.int .i64)).drop i) (0 + (i + 1)) w.drew cur hh
      obtain ⟨cur2, b1, b2, b3⟩ := heap_setCells [.int .i64 n] (0 + i) _ cur1 a1
      refine ⟨_, rfl, .inr ⟨g, c, cur2, by rw [hil], b1, by omega, by omega, hm, fun j hj => ?_⟩, fun k hk => .inl hk, Keeps.setCells g (fun _ => by simp [Value.ownBlock]) _ _ (Keeps.setCells g (fun _ => by simp [Value.ownBlock]) _ _ (Keeps.refl _ w).drew)⟩
      rw [b3 j, a3 j, getD_insertIdx _ _ _ _ hi]
      simp only [List.length_singleton, List.length_drop, List.length_map, Nat.zero_add]
      by_cases hj1 : j < i
      · rw [if_neg (by omega), if_neg (by omega), if_pos hj1]; exact hr j (by omega)
      · by_cases hj2 : j = i
        · subst hj2
          rw [if_pos (by omega), if_neg (by omega), if_pos rfl]; simp
        · rw [if_neg (by omega), if_pos (by omega), if_neg hj1, if_neg hj2, List.getElem?_drop, show i + (j - (i + 1)) = j - 1 by omega]
          exact ints_getElem _ _ (by omega)
  · have hroom' : c < zs.length + 1 := by omega
    have hc1 := grownCap_ge w (zs.length + 1) c 3
    have hc2 := grownCap_le_maxLen w (zs.length + 1) c 3 (by unfold maxLen; omega)
    by_cases he : i = zs.length
    · subst he
      refine (Try.slices_Insert_int_end_grow (some ⟨g, 0, none⟩) zs.length c vb 0 1 1 (zs.map (Value.int .i64)) [.int .i64 n] w (by omega) hlc hroom' (by omega) hcl rfl (fun h => by cases h) (fun a ha j u hj => by injection ha with ha; subst ha; have := hcs j u hj; rw [Nat.zero_add] at this; rw [show (⟨g, 0, none⟩ : Addr).add j = ⟨g, j, none⟩ by (unfold Addr.add; split <;> simp_all)]; exact this) hvs h1v).mono ?_
      rintro e w' ⟨rfl, rfl⟩
      refine ⟨_, rfl, .inr ⟨w.heap.size, grownCap w (zs.length + 1) c 3, _, by rw [hil], heap_new w.drew _, ?_, by omega, hc2, fun j hj => ?_⟩, fun k hk => .inr (by simp [Value.ownBlock] at hk; omega), (Keeps.refl _ _).drew.alloc _⟩
      · simp [size_zeroCells, Value.cells]; omega
      · rw [Array.getElem?_append_left (by simp; omega), List.getElem?_toArray, getD_insertIdx _ _ _ _ (Nat.le_refl _)]
        by_cases hj2 : j < zs.length
        · rw [List.getElem?_append_left (by simpa using hj2), if_pos hj2]; exact ints_getElem _ _ hj2
        · obtain rfl : j = zs.length := by omega
          rw [List.getElem?_append_right (by simp), if_neg (by omega), if_pos rfl]; simp
    · refine (Try.slices_Insert_int_grow g 0 zs.length c i vb 0 1 1 (zs.map (Value.int .i64)) [.int .i64 n] w (by omega) (by omega) hlc hroom' (by omega) hcl rfl hcs hvs h1c h1v).mono ?_
      rintro e w' ⟨rfl, rfl⟩
      obtain ⟨cur0, hcur0⟩ : ∃ cur0, cur0 = (((zs.map (Value.int .i64)).take i).toArray ++ Builtin.zeroCells (Value.int .i64 0).cells (zs.length + 1 - i) ++ Builtin.zeroCells (Value.int .i64 0).cells (grownCap w (zs.length + 1) c 3 - (zs.length + 1))) := ⟨_, rfl⟩
      have hs0 : cur0.size = grownCap w (zs.length + 1) c 3 := by rw [hcur0]; simp [size_zeroCells, Value.cells]; omega
      have hg0 : ∀ j, j < i → cur0[j]? = some (.int .i64 (zs.getD j 0)) := fun j hj => by
        rw [hcur0, Array.getElem?_append_left (by simp; omega), Array.getElem?_append_left (by simp; omega), List.getElem?_toArray, List.getElem?_take, if_pos hj]
        exact ints_getElem _ _ (by omega)
      rw [← hcur0]
      have h0 : (w.alloc (.cells cur0 3)).drew.heap[w.heap.size]? = some (.cells cur0 3 (0, 0)) := heap_new w _
      obtain ⟨cur1, a1, a2, a3⟩ := heap_setCells [.int .i64 n] i (w.alloc (.cells cur0 3)).drew cur0 h0
      obtain ⟨cur2, b1, b2, b3⟩ := heap_setCells ((zs.map (Value.int .i64)).drop i) (i + 1) _ cur1 (show (((w.alloc (.cells cur0 3)).drew.setCells w.heap.size i [.int .i64 n]).drew).heap[w.heap.size]? = _ from a1)
      refine ⟨_, rfl, .inr ⟨w.heap.size, grownCap w (zs.length + 1) c 3, cur2, by rw [hil], b1, by omega, by omega, hc2, fun j hj => ?_⟩, fun k hk => .inr (by simp [Value.ownBlock] at hk; omega), Keeps.setCells w.heap.size (fun h => absurd h (by omega)) _ _ (Keeps.setCells w.heap.size (fun h => absurd h (by omega)) _ _ ((Keeps.refl _ w).alloc _).drew).drew⟩
      rw [b3 j, a3 j, getD_insertIdx _ _ _ _ hi]
      simp only [List.length_singleton, List.length_drop, List.length_map]
      by_cases hj1 : j < i
      · rw [if_neg (by omega), if_neg (by omega), if_pos hj1]; exact hg0 j hj1
      · by_cases hj2 : j = i
        · subst hj2
          rw [if_neg (by omega), if_pos (by omega), if_neg (by omega), if_pos rfl]; simp
        · rw [if_pos (by omega), if_neg hj1, if_neg hj2, List.getElem?_drop, show i + (j - (i + 1)) = j - 1 by omega]
          exact ints_getElem _ _ (by omega)

set_option maxHeartbeats 400000 in
set_option maxRecDepth 100000 in
theorem insert_any (p o i : Nat) (arr : Array Value) (w : World) (hp : w.heap[p]? = some (.cells arr 48 (0, 0))) (v : Value) (ho : arr[o]? = some v) (zs : List Int) (hrow : Row w v zs) (hi : i ≤ zs.length) (hl : zs.length < 4096) (n : Int) :
    Calls Try.prog 27 #[.pointer (some ⟨p, o, none⟩), .int .i64 i, .int .i64 n] w fun e w' => e = .returned (.int .i64 0) ∧ ∃ v', Done w w' p o arr v v' (zs.insertIdx i n) := by
  have hc : w.cell? ⟨p, o, none⟩ = some v := by rw [cell_of_block hp, ho]
  have hf : w.frozen? ⟨p, o, none⟩ = false := free_of_block hp
  obtain ⟨A, c, hv⟩ : ∃ A c, v = .slice A zs.length c := by
    rcases hrow with ⟨rfl, rfl⟩ | ⟨g, c, cur, rfl, _⟩
    · exact ⟨_, _, rfl⟩
    · exact ⟨_, _, rfl⟩
  have HP := Lib.hid hp; clear hp
  have HO := Lib.hid ho; clear ho
  have HW := Lib.hid hrow; clear hrow
  have HV := Lib.hid hv
  subst hv
  have hl' : decide ((4096 : Int) ≤ (zs.length : Int)) = false := by rw [decide_eq_false_iff_not]; omega
  have HL := Lib.hid hl; clear hl
  have HI := Lib.hid hi; clear hi
  go_enter Try.func27, Try.ntmps27
  go_wp2_with fail
  have hne : (Value.slice A zs.length c).ownBlock ≠ some w.heap.size := fun e => absurd (HW.out.lt _ e) (by omega)
  refine (ins_any (w.alloc (.cells #[.int .i64 n] 3)) (.slice A zs.length c) zs (HW.out.kept ((Keeps.refl (fun _ => False) _).alloc _) (fun _ _ h => h)) i w.heap.size n HI.out HL.out (heap_new w _) hne).mono ?_
  rintro e w1 ⟨v', rfl, hI⟩
  have hvp : (Value.slice A zs.length c).ownBlock ≠ some p := fun e => by
    have hp := HP.out
    rcases HW.out with ⟨h, _⟩ | ⟨g, c', cur, h, hh, _⟩
    · rw [h] at e; simp [Value.ownBlock] at e
    · rw [h] at e
      have : g = p := by simpa [Value.ownBlock] using e
      subst this
      rw [hp] at hh; injection hh with hh; injection hh with _ h2; exact absurd h2 (by decide)
  have hk : Keeps (fun k => (Value.slice A zs.length c).ownBlock = some k) w w1 := ((Keeps.refl _ w).alloc _).trans hI.2.2 (fun _ _ h => h)
  have hd := done_store (o := o) HP.out (v := .slice A zs.length c) (v' := v') (w1 := w1) hk hvp hI.1 (fun k hk => (hI.2.1 k hk).imp id (fun h => by simp at h; omega))
  have hb1 : w1.heap[p]? = some (.cells arr 48 (0, 0)) := (hk.block p (lt_of_block' HP.out) hvp).trans HP.out
  have hc1 : w1.cell? ⟨p, o, none⟩ = some (.slice A zs.length c) := by rw [cell_of_block hb1, HO.out]
  have hf1 : w1.frozen? ⟨p, o, none⟩ = false := free_of_block hb1
  have hex : ∃ A' n' c', v' = .slice A' n' c' := by
    rcases hI.1 with ⟨h, _⟩ | ⟨g, c', cur, h, _⟩
    · exact ⟨_, _, _, h⟩
    · exact ⟨_, _, _, h⟩
  clear hb1 hk hvp hI hne hc hf
  have HD := Lib.hid hd; clear hd
  obtain ⟨A', n', c', hv'⟩ := hex
  subst hv'
  go_wp2
  go_ret
  exact ⟨rfl, _, HD.out⟩

end Go.Proofs.Ytadmmpfjdnfefaa
