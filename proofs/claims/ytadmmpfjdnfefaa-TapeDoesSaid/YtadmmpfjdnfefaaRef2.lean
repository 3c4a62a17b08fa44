/-
  The contract of the reference's Do: writing.
-/
import Derived.Test.YtadmmpfjdnfefaaRef
namespace Go.Proofs.Ytadmmpfjdnfefaa
open Go.RowKit

theorem one_get {n : Int} (j : Nat) (hj : j < [n].length) : (#[Value.int .i64 n] : Array Value)[j]? = some (.int .i64 ([n].getD j 0)) := by
  have h0 : j = 0 := by simpa using hj
  subst h0
  rfl
theorem fresh_le {H : Nat} {a : Addr} {n c : Nat} (h : H ≤ a.block) : ∀ k, (Value.slice (some a) n c).ownBlock = some k → H ≤ k := fun k hk => Nat.le_trans h (own_ge k hk)

set_option maxHeartbeats 8000000 in
set_option maxRecDepth 100000 in
theorem ref_write (w : World) (x : Nat) (R : Nat → Prop) (I O : List Int) (n : Int) (h : RefAt w x R I O) :
    Calls Try.prog 17 #[.pointer (some ⟨x, 0, none⟩), .agg #[.int .i64 3, .int .i64 n]] w fun e w' => e = .returned (.tuple #[.int .i64 0, .int .i64 (fullE O)]) ∧ RefMoved w w' x R I (pushB O n) := by
  have hk0 : Hid (Keeps (fun _ => False) w (w.alloc (.cells #[.int .i64 3, .int .i64 n] 37))) := (Keeps.refl _ w).alloc _
  have hend := Lib.hid (h.still hk0.out)
  obtain ⟨vi, vo, h0, h1, h2, h3, h4, h5, h6, h7⟩ := h.kept hk0.out (fun h => h) (fun _ _ h => h)
  have hbox := heap_new w (.cells #[.int .i64 3, .int .i64 n] 37)
  have hsz : (w.alloc (.cells #[.int .i64 3, .int .i64 n] 37)).heap.size = w.heap.size + 1 := by simp
  obtain ⟨wa, hwa⟩ : ∃ wa, wa = w.alloc (.cells #[.int .i64 3, .int .i64 n] 37) := ⟨_, rfl⟩
  have c0 : (w.alloc (.cells #[.int .i64 3, .int .i64 n] 37)).cell? ⟨x, 1, none⟩ = some vo := by rw [cell_of_block h0]; rfl
  have H0 := Lib.hid h0; clear h0
  have H1 := Lib.hid h1; clear h1
  have H2 := Lib.hid h2
  have H3 := Lib.hid h3; clear h3
  have H4 := Lib.hid h4; clear h4
  have H5 := Lib.hid h5; clear h5
  have H6 := Lib.hid h6; clear h6
  have H7 := Lib.hid h7; clear h7
  obtain ⟨A, c, rfl⟩ := h2.form
  clear h h2
  by_cases hfull : 4096 ≤ O.length
  · have hf' : (4096 : Int) ≤ (O.length : Int) := by omega
    rw [fullE_ge hfull, pushB_ge n hfull]
    clear hfull hwa hsz hbox
    go_enter Try.func17, Try.ntmps17
    go_wp2
    go_ret2
    exact ⟨rfl, hend.out⟩
  · have hf' : decide ((4096 : Int) ≤ (O.length : Int)) = false := by rw [decide_eq_false_iff_not]; omega
    have hlt : Hid (O.length < 4096) := by show _ < _; omega
    rw [fullE_lt hlt.out]
    clear hfull hwa
    obtain ⟨H, hH⟩ : ∃ H, H = w.heap.size + 1 := ⟨_, rfl⟩
    -- the three orders of the two new blocks
    have kE : Hid (Keeps (fun _ => False) (w.alloc (.cells #[.int .i64 3, .int .i64 n] 37)) ((w.alloc (.cells #[.int .i64 3, .int .i64 n] 37)).alloc (.cells #[] 3))) := (Keeps.refl _ _).alloc _
    have kN : Hid (Keeps (fun _ => False) (w.alloc (.cells #[.int .i64 3, .int .i64 n] 37)) ((w.alloc (.cells #[.int .i64 3, .int .i64 n] 37)).alloc (.cells #[.int .i64 n] 3))) := (Keeps.refl _ _).alloc _
    have kEN : Hid (Keeps (fun _ => False) (w.alloc (.cells #[.int .i64 3, .int .i64 n] 37)) (((w.alloc (.cells #[.int .i64 3, .int .i64 n] 37)).alloc (.cells #[] 3)).alloc (.cells #[.int .i64 n] 3))) := kE.out.alloc _
    have kNE : Hid (Keeps (fun _ => False) (w.alloc (.cells #[.int .i64 3, .int .i64 n] 37)) (((w.alloc (.cells #[.int .i64 3, .int .i64 n] 37)).alloc (.cells #[.int .i64 n] 3)).alloc (.cells #[] 3))) := kN.out.alloc _
    have e0 := kE.out.cell' c0
    have e1 := kN.out.cell' c0
    have e2 := kEN.out.cell' c0
    have e3 := kNE.out.cell' c0
    have b0 : (w.alloc (.cells #[.int .i64 3, .int .i64 n] 37)).cell? ⟨w.heap.size, 1, none⟩ = some (.int .i64 n) := by rw [cell_of_block hbox]; rfl
    have b1 := kE.out.cell' b0
    have B0 := Lib.hid b0
    have S := Lib.hid hsz; clear hsz hbox
    have rE1 : Hid (Row ((w.alloc (.cells #[.int .i64 3, .int .i64 n] 37)).alloc (.cells #[] 3)) (.slice (some ⟨w.heap.size + 1, 0, none⟩) 0 0) []) := row_empty_at _ _ S.out
    have rE2 : Hid (Row (((w.alloc (.cells #[.int .i64 3, .int .i64 n] 37)).alloc (.cells #[] 3)).alloc (.cells #[.int .i64 n] 3)) (.slice (some ⟨w.heap.size + 1, 0, none⟩) 0 0) []) := rE1.out.kept (S := fun _ => False) ((Keeps.refl _ _).alloc _) (fun _ _ h => h)
    have rE3 : Hid (Row (((w.alloc (.cells #[.int .i64 3, .int .i64 n] 37)).alloc (.cells #[.int .i64 n] 3)).alloc (.cells #[] 3)) (.slice (some ⟨w.heap.size + 1 + 1, 0, none⟩) 0 0) []) := row_empty_at _ _ (by rw [World.size_alloc, S.out])
    have rN2 : Hid ((((w.alloc (.cells #[.int .i64 3, .int .i64 n] 37)).alloc (.cells #[] 3)).alloc (.cells #[.int .i64 n] 3)).heap[w.heap.size + 1 + 1]? = some (.cells #[.int .i64 n] 3)) := by
      have h := heap_new ((w.alloc (.cells #[.int .i64 3, .int .i64 n] 37)).alloc (.cells #[] 3)) (.cells #[.int .i64 n] 3)
      rw [World.size_alloc, S.out] at h
      exact h
    have rN3 : Hid ((((w.alloc (.cells #[.int .i64 3, .int .i64 n] 37)).alloc (.cells #[.int .i64 n] 3)).alloc (.cells #[] 3)).heap[w.heap.size + 1]? = some (.cells #[.int .i64 n] 3)) := by
      have h := heap_new (w.alloc (.cells #[.int .i64 3, .int .i64 n] 37)) (.cells #[.int .i64 n] 3)
      rw [S.out] at h
      exact (Below.heap_alloc _ _ _ (by rw [World.size_alloc, S.out]; omega)).trans h
    have u1 := Lib.hid (H2.out.kept kE.out (fun _ _ h => h))
    have u2 := Lib.hid (H2.out.kept kEN.out (fun _ _ h => h))
    have u3 := Lib.hid (H2.out.kept kNE.out (fun _ _ h => h))
    have hl1 : Hid (([] : List Int).length + O.length ≤ 1000000) := by have := hlt.out; show _ ≤ _; simp; omega
    have hl2 : Hid (O.length + ([n] : List Int).length ≤ 1000000) := by have := hlt.out; show _ ≤ _; simp; omega
    have z1 : Hid (w.heap.size + 1 ≤ ((w.alloc (.cells #[.int .i64 3, .int .i64 n] 37)).alloc (.cells #[] 3)).heap.size) := by show _ ≤ _; rw [World.size_alloc, S.out]; omega
    have z2 : Hid (w.heap.size + 1 ≤ (((w.alloc (.cells #[.int .i64 3, .int .i64 n] 37)).alloc (.cells #[] 3)).alloc (.cells #[.int .i64 n] 3)).heap.size) := by show _ ≤ _; rw [World.size_alloc, World.size_alloc, S.out]; omega
    have z3 : Hid (w.heap.size + 1 ≤ (((w.alloc (.cells #[.int .i64 3, .int .i64 n] 37)).alloc (.cells #[.int .i64 n] 3)).alloc (.cells #[] 3)).heap.size) := by show _ ≤ _; rw [World.size_alloc, World.size_alloc, S.out]; omega
    -- behind the first append, in each order
    have a1 : Hid (∀ (v' : Value) (w1 : World), Row w1 v' ([] ++ O) → (∀ k, v'.ownBlock = some k → w.heap.size + 1 ≤ k) → Keeps (fun k => (Value.slice (some ⟨w.heap.size + 1, 0, none⟩) 0 0).ownBlock = some k) ((w.alloc (.cells #[.int .i64 3, .int .i64 n] 37)).alloc (.cells #[] 3)) w1 →
        Hid (Row (w1.alloc (.cells #[.int .i64 n] 3)) v' O) ∧ Hid (Reads (w1.alloc (.cells #[.int .i64 n] 3)) (.slice (some ⟨w1.heap.size, 0, none⟩) 1 1) [n]) ∧ Hid (Keeps (fun _ => False) (w.alloc (.cells #[.int .i64 3, .int .i64 n] 37)) (w1.alloc (.cells #[.int .i64 n] 3))) ∧ w1.cell? ⟨w.heap.size, 1, none⟩ = some (.int .i64 n)) := fun v' w1 hr hb hk => by
      have kk : Keeps (fun _ => False) (w.alloc (.cells #[.int .i64 3, .int .i64 n] 37)) w1 := kE.out.trans hk (fun i hi hs => by have := own_ge i hs; rw [S.out] at hi; simp at this; omega)
      exact ⟨Row.kept hr (S := fun _ => False) ((Keeps.refl _ _).alloc _) (fun _ _ h => h), (row_one w1 n _ rfl).reads, kk.alloc _, kk.cell' B0.out⟩
    have a2 : Hid (∀ (v' : Value) (w1 : World), Row w1 v' ([] ++ O) → (∀ k, v'.ownBlock = some k → w.heap.size + 1 ≤ k) → Keeps (fun k => (Value.slice (some ⟨w.heap.size + 1, 0, none⟩) 0 0).ownBlock = some k) (((w.alloc (.cells #[.int .i64 3, .int .i64 n] 37)).alloc (.cells #[] 3)).alloc (.cells #[.int .i64 n] 3)) w1 →
        Hid (Row w1 v' O) ∧ Hid (Reads w1 (.slice (some ⟨w.heap.size + 1 + 1, 0, none⟩) 1 1) [n]) ∧ Hid (Keeps (fun _ => False) (w.alloc (.cells #[.int .i64 3, .int .i64 n] 37)) w1)) := fun v' w1 hr hb hk => by
      have kk : Keeps (fun _ => False) (w.alloc (.cells #[.int .i64 3, .int .i64 n] 37)) w1 := kEN.out.trans hk (fun i hi hs => by have := own_ge i hs; rw [S.out] at hi; simp at this; omega)
      refine ⟨hr, ?_, kk⟩
      exact reads_block (zs := [n]) ((hk.block _ (lt_of_block' rN2.out) (fun hs => by simp [Value.ownBlock] at hs)).trans rN2.out) (by unfold maxLen; simp) (fun j hj => one_get j hj)
    have a3 : Hid (∀ (v' : Value) (w1 : World), Row w1 v' ([] ++ O) → (∀ k, v'.ownBlock = some k → w.heap.size + 1 ≤ k) → Keeps (fun k => (Value.slice (some ⟨w.heap.size + 1 + 1, 0, none⟩) 0 0).ownBlock = some k) (((w.alloc (.cells #[.int .i64 3, .int .i64 n] 37)).alloc (.cells #[.int .i64 n] 3)).alloc (.cells #[] 3)) w1 →
        Hid (Row w1 v' O) ∧ Hid (Reads w1 (.slice (some ⟨w.heap.size + 1, 0, none⟩) 1 1) [n]) ∧ Hid (Keeps (fun _ => False) (w.alloc (.cells #[.int .i64 3, .int .i64 n] 37)) w1)) := fun v' w1 hr hb hk => by
      have kk : Keeps (fun _ => False) (w.alloc (.cells #[.int .i64 3, .int .i64 n] 37)) w1 := kNE.out.trans hk (fun i hi hs => by have := own_ge i hs; rw [S.out] at hi; simp at this; omega)
      refine ⟨hr, ?_, kk⟩
      exact reads_block (zs := [n]) ((hk.block _ (lt_of_block' rN3.out) (fun hs => by simp [Value.ownBlock] at hs)).trans rN3.out) (by unfold maxLen; simp) (fun j hj => one_get j hj)
    -- behind the second
    have fin : Hid (∀ (v1 v' : Value) (X w2 : World), Hid (Keeps (fun _ => False) (w.alloc (.cells #[.int .i64 3, .int .i64 n] 37)) X) → Hid (∀ k, v1.ownBlock = some k → w.heap.size + 1 ≤ k) → Row w2 v' (O ++ [n]) → (∀ k, v'.ownBlock = some k → w.heap.size + 1 ≤ k) → Keeps (fun k => v1.ownBlock = some k) X w2 →
        Hid (RefMoved w (w2.setCell ⟨x, 1, none⟩ v') x R I (pushB O n)) ∧ w2.cell? ⟨x, 1, none⟩ = some (.slice A O.length c) ∧ w2.frozen? ⟨x, 1, none⟩ = false ∧ ∃ A' n' c', v' = .slice A' n' c') := fun v1 v' X w2 kX hb1 hr hb hk => by
      have kk : Keeps (fun _ => False) (w.alloc (.cells #[.int .i64 3, .int .i64 n] 37)) w2 := kX.out.trans hk (fun i hi hs => by have := hb1.out i hs; rw [S.out] at hi; omega)
      obtain ⟨A', c', hv'⟩ := hr.shape
      have hpu : pushB O n = O ++ [n] := by unfold pushB; rw [if_neg (by have := hlt.out; omega)]
      refine ⟨RefMoved.of_new hk0.out (ref_store H0.out H1.out H2.out H3.out H4.out H5.out kk (fun k e => by have := hb k e; rw [S.out]; omega) (.inr ⟨rfl, rfl, by rw [hpu]; exact hr⟩) H6.out (pushB_le n H7.out)), kk.cell' (by rw [cell_of_block H0.out]; rfl), ?_, A', _, c', hv'⟩
      exact free_of_block ((kk.block x (lt_of_block' H0.out) (fun h => h)).trans H0.out)
    go_enter Try.func17, Try.ntmps17
    go_wp2
    go_region_law (first | (refine step_append_reads rfl (.tmp 98) (.tmp 102) rfl (w.heap.size + 1) (.slice (some ⟨w.heap.size + 1, 0, none⟩) 0 0) (.slice A O.length c) [] O ?_ ?_ ?_ ?_ ?_ ?_ ?_ ?_; (simp [Act.eval]); (simp [Act.eval]); (exact rE1.out); (exact fresh_le (Nat.le_refl _)); (exact z1.out); (exact u1.out); (exact hl1.out); intro v' w1 hr hb hk; have g := a1.out v' w1 hr hb hk.undrew; have hb' := Lib.hid hb; clear hr hb hk; obtain ⟨g1, g2, g3, g4⟩ := g) | (refine step_append_reads rfl (.tmp 98) (.tmp 102) rfl (w.heap.size + 1) (.slice (some ⟨w.heap.size + 1, 0, none⟩) 0 0) (.slice A O.length c) [] O ?_ ?_ ?_ ?_ ?_ ?_ ?_ ?_; (simp [Act.eval]); (simp [Act.eval]); (exact rE2.out); (exact fresh_le (Nat.le_refl _)); (exact z2.out); (exact u2.out); (exact hl1.out); intro v' w1 hr hb hk; have g := a2.out v' w1 hr hb hk.undrew; have hb' := Lib.hid hb; clear hr hb hk; obtain ⟨g1, g2, g3⟩ := g) | (refine step_append_reads rfl (.tmp 98) (.tmp 102) rfl (w.heap.size + 1) (.slice (some ⟨w.heap.size + 1 + 1, 0, none⟩) 0 0) (.slice A O.length c) [] O ?_ ?_ ?_ ?_ ?_ ?_ ?_ ?_; (simp [Act.eval]); (simp [Act.eval]); (exact rE3.out); (exact fresh_le (Nat.le_succ _)); (exact z3.out); (exact u3.out); (exact hl1.out); intro v' w1 hr hb hk; have g := a3.out v' w1 hr hb hk.undrew; have hb' := Lib.hid hb; clear hr hb hk; obtain ⟨g1, g2, g3⟩ := g) | (refine step_append_reads rfl (.tmp 103) (.tmp 106) rfl (w.heap.size + 1) v' (.slice (some ⟨w1.heap.size, 0, none⟩) 1 1) O [n] ?_ ?_ ?_ ?_ ?_ ?_ ?_ ?_; (simp [Act.eval]); (simp [Act.eval]); (exact g1.out); (exact hb'.out); (exact Nat.le_trans (by rw [S.out]; exact Nat.le_refl _) g3.out.size); (exact g2.out); (exact hl2.out); intro v2 w2 hr hb hk; have g := fin.out v' v2 _ w2 g3 hb' hr hb hk; clear hr hb hk; obtain ⟨g5, g6, g7, A', n', c', rfl⟩ := g) | (refine step_append_reads rfl (.tmp 103) (.tmp 106) rfl (w.heap.size + 1) v' (.slice (some ⟨w.heap.size + 1 + 1, 0, none⟩) 1 1) O [n] ?_ ?_ ?_ ?_ ?_ ?_ ?_ ?_; (simp [Act.eval]); (simp [Act.eval]); (exact g1.out); (exact hb'.out); (exact Nat.le_trans (by rw [S.out]; exact Nat.le_refl _) g3.out.size); (exact g2.out); (exact hl2.out); intro v2 w2 hr hb hk; have g := fin.out v' v2 _ w2 g3 hb' hr hb hk; clear hr hb hk; obtain ⟨g5, g6, g7, A', n', c', rfl⟩ := g) | (refine step_append_reads rfl (.tmp 103) (.tmp 106) rfl (w.heap.size + 1) v' (.slice (some ⟨w.heap.size + 1, 0, none⟩) 1 1) O [n] ?_ ?_ ?_ ?_ ?_ ?_ ?_ ?_; (simp [Act.eval]); (simp [Act.eval]); (exact g1.out); (exact hb'.out); (exact Nat.le_trans (by rw [S.out]; exact Nat.le_refl _) g3.out.size); (exact g2.out); (exact hl2.out); intro v2 w2 hr hb hk; have g := fin.out v' v2 _ w2 g3 hb' hr hb hk; clear hr hb hk; obtain ⟨g5, g6, g7, A', n', c', rfl⟩ := g))
    all_goals
      clear b0 b1 e0 e1 e2 e3 c0
      go_wp2
      go_ret2
      exact ⟨rfl, g5.out⟩

end Go.Proofs.Ytadmmpfjdnfefaa
