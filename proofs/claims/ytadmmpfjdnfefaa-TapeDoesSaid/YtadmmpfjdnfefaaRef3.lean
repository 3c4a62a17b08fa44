/-
  The contract of the reference's Do: taking back what was written; the whole contract.
-/
import Derived.Test.YtadmmpfjdnfefaaRef2
import Derived.IntWalk
namespace Go.Proofs.Ytadmmpfjdnfefaa
open Go.RowKit

set_option maxHeartbeats 8000000 in
set_option maxRecDepth 100000 in
theorem ref_unwrite (w : World) (x : Nat) (R : Nat → Prop) (I O : List Int) (q n : Int) (d1 : (q == 1) = false) (d2 : (q == 2) = false) (d3 : (q == 3) = false) (h : RefAt w x R I O) :
    Calls Try.prog 17 #[.pointer (some ⟨x, 0, none⟩), .agg #[.int .i64 q, .int .i64 n]] w fun e w' => e = .returned (.tuple #[.int .i64 (lastN O), .int .i64 (emptyE O)]) ∧ RefMoved w w' x R I O.dropLast := by
  have hk0 : Hid (Keeps (fun _ => False) w (w.alloc (.cells #[.int .i64 q, .int .i64 n] 37))) := (Keeps.refl _ w).alloc _
  have hend := Lib.hid (h.still hk0.out)
  obtain ⟨vi, vo, h0, h1, h2, h3, h4, h5, h6, h7⟩ := h.kept hk0.out (fun h => h) (fun _ _ h => h)
  have c0 : (w.alloc (.cells #[.int .i64 q, .int .i64 n] 37)).cell? ⟨x, 1, none⟩ = some vo := by rw [cell_of_block h0]; rfl
  have H0 := Lib.hid h0; clear h0
  have H1 := Lib.hid h1; clear h1
  have H2 := Lib.hid h2
  have H3 := Lib.hid h3; clear h3
  have H4 := Lib.hid h4; clear h4
  have H5 := Lib.hid h5; clear h5
  have H6 := Lib.hid h6; clear h6
  have H7 := Lib.hid h7; clear h7
  obtain ⟨A, c, rfl⟩ := h2.form
  clear h h2
  by_cases hO : O = []
  · subst hO
    go_enter Try.func17, Try.ntmps17
    go_wp2
    go_ret2
    exact ⟨rfl, hend.out⟩
  · have hlen : 0 < O.length := List.length_pos_iff.2 hO
    obtain ⟨b, off, rfl, hc⟩ := H2.out.addr hlen
    obtain ⟨m, hm⟩ : ∃ m, O.length = m + 1 := ⟨O.length - 1, by omega⟩
    obtain ⟨z, hz⟩ : ∃ z, z = lastN O := ⟨_, rfl⟩
    have dz : (w.alloc (.cells #[.int .i64 q, .int .i64 n] 37)).cell? ⟨b, off + m, none⟩ = some (.int .i64 z) := by
      rw [hc m (by omega), hz, ← last_eq, hm]
      congr 3
      omega
    have heE : Hid (emptyE O = 0) := emptyE_ne.2 hO
    have hlO : Hid (O.length = m + 1) := hm
    have hmd : Hid (m = O.dropLast.length) := by show _ = _; rw [List.length_dropLast]; omega
    have hcc : Hid (m + 1 ≤ c ∧ c ≤ maxLen) := by
      obtain ⟨_, c', e, k1, k2, _⟩ := H2.out
      injection e with _ _ e3
      subst e3
      exact ⟨by omega, k2⟩
    rw [heE.out, ← hz]
    have hrd0 := Lib.hid (reads_init H2.out hmd.out)
    rw [hlO.out] at c0
    have HZ := Lib.hid hz; clear hz
    clear hc hO hlen hm
    have hsz : (w.alloc (.cells #[.int .i64 q, .int .i64 n] 37)).heap.size = w.heap.size + 1 := by simp
    have S := Lib.hid hsz; clear hsz
    have kE : Hid (Keeps (fun _ => False) (w.alloc (.cells #[.int .i64 q, .int .i64 n] 37)) ((w.alloc (.cells #[.int .i64 q, .int .i64 n] 37)).alloc (.cells #[] 3))) := (Keeps.refl _ _).alloc _
    have e0 : ∀ N, (((w.alloc (.cells #[.int .i64 q, .int .i64 n] 37)).drewN N).alloc (.cells #[] 3)).cell? ⟨x, 1, none⟩ = some (.slice (some ⟨b, off, none⟩) (m + 1) c) := fun N => kE.out.cell' c0
    have rE : Hid (Row ((w.alloc (.cells #[.int .i64 q, .int .i64 n] 37)).alloc (.cells #[] 3)) (.slice (some ⟨w.heap.size + 1, 0, none⟩) 0 0) []) := row_empty_at _ _ S.out
    have u1 := Lib.hid (hrd0.out.kept kE.out (fun _ _ h => h))
    have z1 : Hid (w.heap.size + 1 ≤ ((w.alloc (.cells #[.int .i64 q, .int .i64 n] 37)).alloc (.cells #[] 3)).heap.size) := by show _ ≤ _; rw [World.size_alloc, S.out]; omega
    have hl1 : Hid (([] : List Int).length + O.dropLast.length ≤ 1000000) := by have := H7.out; have := hmd.out; have := hlO.out; show _ ≤ _; simp only [List.length_nil]; omega
    have fin : Hid (∀ (v' : Value) (w2 : World), Row w2 v' ([] ++ O.dropLast) → (∀ k, v'.ownBlock = some k → w.heap.size + 1 ≤ k) → Keeps (fun k => (Value.slice (some ⟨w.heap.size + 1, 0, none⟩) 0 0).ownBlock = some k) ((w.alloc (.cells #[.int .i64 q, .int .i64 n] 37)).alloc (.cells #[] 3)) w2 →
        Hid (RefMoved w (w2.setCell ⟨x, 1, none⟩ v') x R I O.dropLast) ∧ w2.cell? ⟨x, 1, none⟩ = some (.slice (some ⟨b, off, none⟩) (m + 1) c) ∧ w2.frozen? ⟨x, 1, none⟩ = false ∧ ∃ A' n' c', v' = .slice A' n' c') := fun v' w2 hr hb hk => by
      have kk : Keeps (fun _ => False) (w.alloc (.cells #[.int .i64 q, .int .i64 n] 37)) w2 := kE.out.trans hk (fun i hi hs => by have := own_ge i hs; rw [S.out] at hi; simp at this; omega)
      obtain ⟨A', c', hv'⟩ := Row.shape hr
      refine ⟨RefMoved.of_new hk0.out (ref_store H0.out H1.out H2.out H3.out H4.out H5.out kk (fun k e => by have := hb k e; rw [S.out]; omega) (.inr ⟨rfl, rfl, hr⟩) H6.out (dropLast_le H7.out)), kk.cell' (by rw [cell_of_block H0.out, ← hlO.out]; rfl), ?_, A', _, c', hv'⟩
      exact free_of_block ((kk.block x (lt_of_block' H0.out) (fun h => h)).trans H0.out)
    have hw0 : IntKind.i64.wrap ((m : Int) + 1 - 1) = (m : Int) := by rw [show (m : Int) + 1 - 1 = (m : Int) by omega]; exact IntWalk.i64_in _ (by have := H7.out; have := hlO.out; omega)
    have hw1 : IntKind.i64.wrap (m : Int) = (m : Int) := IntWalk.i64_in _ (by have := H7.out; have := hlO.out; omega)
    have hi0 : (m : Int) < (m : Int) + 1 := by omega
    have hm0 : (0 : Int) ≤ (m : Int) := by omega
    have hmc : m ≤ c := by have := hcc.out.1; omega
    have hc1 : (m : Int) + 1 ≤ (c : Int) := by have := hcc.out.1; omega
    go_enter Try.func17, Try.ntmps17
    go_wp2
    go_quiet (fail)
    go_wp2
    go_region_law (refine step_append_reads rfl (.tmp 29) (.tmp 40) rfl (w.heap.size + 1) (.slice (some ⟨w.heap.size + 1, 0, none⟩) 0 0) (.slice (some ⟨b, off, none⟩) m c) [] O.dropLast ?_ ?_ ?_ ?_ ?_ ?_ ?_ ?_; (simp [Act.eval, Act.put]); (simp [Act.eval, Act.put]); (exact rE.out); (exact fresh_le (Nat.le_refl _)); (exact z1.out); (exact u1.out); (exact hl1.out); intro v' w1 hr hb hk; have g := fin.out v' w1 hr hb ⟨hk.os, hk.tape, hk.output, hk.size, hk.block⟩; clear hr hb hk; obtain ⟨g5, g6, g7, A', n', c', rfl⟩ := g)
    all_goals
      clear e0 c0
      go_wp2
      go_ret2
      exact ⟨rfl, g5.out⟩

/-- THE REFERENCE's Do. -/
theorem ref_do (w : World) (x : Nat) (R : Nat → Prop) (I O : List Int) (o : Op2) (h : RefAt w x R I O) :
    Calls Try.prog 17 #[.pointer (some ⟨x, 0, none⟩), opV o] w fun e w' => e = .returned (.tuple #[.int .i64 (resN I O o), .int .i64 (resE I O o)]) ∧ RefMoved w w' x R (nextI I o) (nextO O o) := by
  obtain ⟨q, n⟩ := o
  by_cases h1 : q = 1
  · subst h1; exact ref_read w x R I O n h
  by_cases h2 : q = 2
  · subst h2; exact ref_unread w x R I O n h
  by_cases h3 : q = 3
  · subst h3; exact ref_write w x R I O n h
  · have g1 : resN I O ⟨q, n⟩ = lastN O := by simp only [resN, if_neg h1, if_neg h2, if_neg h3]
    have g2 : resE I O ⟨q, n⟩ = emptyE O := by simp only [resE, if_neg h1, if_neg h2, if_neg h3]
    have g3 : nextI I ⟨q, n⟩ = I := by simp only [nextI, if_neg h1, if_neg h2]
    have g4 : nextO O ⟨q, n⟩ = O.dropLast := by simp only [nextO, if_neg h1, if_neg h2, if_neg h3]
    rw [g1, g2, g3, g4]
    exact ref_unwrite w x R I O q n (beq_eq_false_iff_ne.2 h1) (beq_eq_false_iff_ne.2 h2) (beq_eq_false_iff_ne.2 h3) h

end Go.Proofs.Ytadmmpfjdnfefaa
