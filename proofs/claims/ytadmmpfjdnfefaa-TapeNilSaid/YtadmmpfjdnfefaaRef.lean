/-
  The contract of the reference's Do.
-/
import Derived.Test.YtadmmpfjdnfefaaUndo
import Derived.Deep.RegionLaw
namespace Go.Proofs.Ytadmmpfjdnfefaa
open Go.RowKit

/-- append onto a row of the call's own, from whatever slice of ints: at the operation. -/
theorem wp_append_reads {o : Oper} {a : Act} {w : World} {K : Act → World → Prop} {Q : Exit → Act → World → Prop} (s x : Operand)
    (ho : o.op = .call { callee := .builtin .append, args := #[s, x], argTypes := #[22, 22] }) (B : Nat) (v u : Value) (zs ys : List Int) (hs : a.eval s = v) (hx : a.eval x = u) (hr : Row w v zs) (hB : ∀ k, v.ownBlock = some k → B ≤ k) (hBw : B ≤ w.heap.size)
    (hu : Reads w u ys) (hb : zs.length + ys.length ≤ 1000000)
    (h : ∀ v' w', Row w' v' (zs ++ ys) → (∀ k, v'.ownBlock = some k → B ≤ k) → Keeps (fun k => v.ownBlock = some k) w w' → K (a.put o.dst v') w') : o.wp Try.prog a w K Q := by
  obtain ⟨i0, hi, hz0, hz1, hz2⟩ := info_parts Try.info3
  obtain ⟨A, c, rfl, h1, h2, h3, hc⟩ := hu
  match A with
  | none =>
    have h0 : ys = [] := List.length_eq_zero_iff.1 (by have := h3 rfl; omega)
    have hc0 := h3 rfl
    subst h0 hc0
    have hrun := run_append_owned_none (P := Try.prog) (w := w) B 22 o.type 3 i0 1 Try.underlying22 hi v zs.length _ (hr.owns B hB)
    have hx' : a.eval x = .slice none 0 0 := hx
    unfold Oper.wp execOp
    simp only [ho, resolve, invoke, builtin, Sem.run_bind, Sem.run_pure, Result.andThen_ok, List.map_toArray, List.map_cons, List.map_nil, hs, hx', hrun]
    exact h v w (by rw [List.append_nil]; exact hr) hB (Keeps.refl _ _)
  | some ad =>
    refine wp_append_own w s x 22 ho B 3 i0 (.int .i64 0) 1 8 Try.underlying22 hi hz0 hz1 hz2 rfl (by decide) v zs.length _ hs (hr.owns B hB) ad ys.length c (ys.map (Value.int .i64)) hx (by simp) (fun j u hj => ?_) (fun u hu => ?_) (by unfold maxLen; omega) (by omega) hBw ?_
    · obtain ⟨g1, rfl⟩ := getElem_ints ys j u hj
      exact hc ad rfl j g1
    · obtain ⟨z, _, rfl⟩ := List.mem_map.1 hu; rfl
    · intro v' w' hown hg _
      rw [← List.map_append] at hown
      obtain ⟨r1, _, r3⟩ := Row.of_owns hown
      exact h v' w' r1 r3 ⟨hg.os, hg.tape, hg.output, hg.size, fun k hk hn => hg.block k hk (fun e => hn e.symm)⟩

/-- append, as one step of a region that draws its order. -/
theorem step_append_reads {ops : Array Oper} {o : Oper} {a : Act} {w : World} {K : Act → World → Prop} {Q : Exit → Act → World → Prop} {E : Prop} (hgd : o.guard = none) (s x : Operand)
    (ho : o.op = .call { callee := .builtin .append, args := #[s, x], argTypes := #[22, 22] }) (B : Nat) (v u : Value) (zs ys : List Int) (hs : a.eval s = v) (hx : a.eval x = u) (hr : Row w v zs) (hB : ∀ k, v.ownBlock = some k → B ≤ k) (hBw : B ≤ w.heap.size)
    (hu : Reads w u ys) (hb : zs.length + ys.length ≤ 1000000)
    (h : ∀ v' w', Row w' v' (zs ++ ys) → (∀ k, v'.ownBlock = some k → B ≤ k) → Keeps (fun k => v.ownBlock = some k) w w' → K (a.put o.dst v') w') : if Region.wanted o (yielded ops a.tmps) = true then Oper.wp Try.prog o a w K Q else E := by
  have hw : Region.wanted o (yielded ops a.tmps) = true := by simp [Region.wanted, hgd]
  rw [if_pos hw]
  exact wp_append_reads s x ho B v u zs ys hs hx hr hB hBw hu hb h

/-- The reference's tape at block x; R: the blocks that its two readings lean on. -/
def RefAt (w : World) (x : Nat) (R : Nat → Prop) (I O : List Int) : Prop :=
  ∃ vi vo, w.heap[x]? = some (.cells #[vi, vo] 35 (0, 0)) ∧ Reads w vi I ∧ Reads w vo O ∧ (∀ k, blk vi = some k → R k) ∧ (∀ k, blk vo = some k → R k) ∧ ¬ R x ∧ I.length ≤ 4096 ∧ O.length ≤ 4096
def RefMoved (w w' : World) (x : Nat) (R : Nat → Prop) (I O : List Int) : Prop :=
  ∃ R' : Nat → Prop, RefAt w' x R' I O ∧ (∀ k, R' k → R k ∨ w.heap.size ≤ k) ∧ Keeps (fun k => k = x) w w'

theorem RefAt.kept {S : Nat → Prop} {w w' : World} {x : Nat} {R : Nat → Prop} {I O : List Int} (h : RefAt w x R I O) (hk : Keeps S w w') (hx : ¬ S x) (hR : ∀ k, R k → ¬ S k) : RefAt w' x R I O := by
  obtain ⟨vi, vo, h0, h1, h2, h3, h4, h5, h6, h7⟩ := h
  exact ⟨vi, vo, (hk.block x (lt_of_block' h0) hx).trans h0, h1.kept hk (fun k e => hR k (h3 k e)), h2.kept hk (fun k e => hR k (h4 k e)), h3, h4, h5, h6, h7⟩

theorem ref_store {w0 w1 : World} {x o : Nat} {R : Nat → Prop} {vi vo v' : Value} {I O I' O' : List Int} (hx : w0.heap[x]? = some (.cells #[vi, vo] 35 (0, 0))) (hi : Reads w0 vi I) (ho : Reads w0 vo O) (h3 : ∀ k, blk vi = some k → R k) (h4 : ∀ k, blk vo = some k → R k) (h5 : ¬ R x)
    (hk : Keeps (fun _ => False) w0 w1) (hb : ∀ k, v'.ownBlock = some k → w0.heap.size ≤ k) (h : (o = 0 ∧ Row w1 v' I' ∧ O' = O) ∨ (o = 1 ∧ I' = I ∧ Row w1 v' O')) (h6 : I'.length ≤ 4096) (h7 : O'.length ≤ 4096) :
    RefMoved w0 (w1.setCell ⟨x, o, none⟩ v') x R I' O' := by
  have hxl := lt_of_block' hx
  have hx1 : w1.heap[x]? = some (.cells #[vi, vo] 35 (0, 0)) := (hk.block x hxl (fun h => h)).trans hx
  have hks : Keeps (fun k => k = x) w1 (w1.setCell ⟨x, o, none⟩ v') := (Keeps.refl _ _).setCell _ _ (fun _ => rfl)
  have hb2 : ∀ k, blk v' = some k → w0.heap.size ≤ k := fun k e => hb k (blk_own e)
  have hkk : Keeps (fun k => k = x) w0 (w1.setCell ⟨x, o, none⟩ v') := (hk.mono (fun _ _ h => h.elim)).trans hks (fun _ _ h => h)
  have hrow : ∀ zs, Row w1 v' zs → Reads (w1.setCell ⟨x, o, none⟩ v') v' zs := fun zs hr => (hr.kept hks (fun k e hkx => by have := hb k e; omega)).reads
  refine ⟨fun k => R k ∨ w0.heap.size ≤ k, ?_, fun k h => h, hkk⟩
  rcases h with ⟨rfl, hr, rfl⟩ | ⟨rfl, rfl, hr⟩
  · exact ⟨v', vo, heap_setCell_same (p := ⟨x, 0, none⟩) rfl hx1 v', hrow _ hr, ho.kept hkk (fun k e hkx => h5 (hkx ▸ h4 k e)), fun k e => .inr (hb2 k e), fun k e => .inl (h4 k e), fun h => h.elim h5 (by omega), h6, h7⟩
  · exact ⟨vi, v', heap_setCell_same (p := ⟨x, 1, none⟩) rfl hx1 v', hi.kept hkk (fun k e hkx => h5 (hkx ▸ h3 k e)), hrow _ hr, fun k e => .inl (h3 k e), fun k e => .inr (hb2 k e), fun h => h.elim h5 (by omega), h6, h7⟩
theorem RefMoved.of_new {w0 w w' : World} {x : Nat} {R : Nat → Prop} {I O : List Int} (hk : Keeps (fun _ => False) w0 w) (h : RefMoved w w' x R I O) : RefMoved w0 w' x R I O := by
  obtain ⟨R', h1, h2, h3⟩ := h
  have := hk.size
  exact ⟨R', h1, fun k hk => (h2 k hk).imp id (fun h => by omega), (hk.mono (fun _ _ h => h.elim)).trans h3 (fun _ _ h => h)⟩

theorem reads_zero (w : World) (a : Addr) (c : Nat) (hc : c ≤ maxLen) : Reads w (.slice (some a) 0 c) [] := ⟨some a, c, rfl, Nat.zero_le _, hc, (fun h => by cases h), fun a _ j hj => absurd hj (by simp)⟩
theorem reads_drop1 {w : World} {b off c m : Nat} {z : Int} {I : List Int} (h : Reads w (.slice (some ⟨b, off, none⟩) (z :: I).length c) (z :: I)) (hm : m = I.length) : Reads w (.slice (some ⟨b, off + 1, none⟩) m (c - 1)) I := by
  subst hm
  obtain ⟨b', off', e, hc⟩ := h.addr (by simp)
  injection e with e
  injection e with e1 e2 _
  subst e1 e2
  obtain ⟨A', c', e, h1, h2, h3, _⟩ := h
  injection e with _ _ e3
  subst e3
  simp only [List.length_cons] at h1
  refine ⟨_, _, rfl, by omega, by omega, (fun h => by cases h), fun a ha j hj => ?_⟩
  injection ha with ha
  subst ha
  rw [show (⟨b, off + 1, none⟩ : Addr).add j = ⟨b, off + (j + 1), none⟩ by (unfold Addr.add; simp [Nat.add_assoc, Nat.add_comm 1])]
  rw [hc (j + 1) (by simp; omega)]
  simp
theorem reads_init {w : World} {A : Option Addr} {c m : Nat} {I : List Int} (h : Reads w (.slice A I.length c) I) (hm : m = I.dropLast.length) : Reads w (.slice A m c) I.dropLast := by
  subst hm
  obtain ⟨A', c', e, h1, h2, h3, hr⟩ := h
  injection e with e1 _ e3
  subst e1 e3
  have hl : I.dropLast.length = I.length - 1 := List.length_dropLast
  refine ⟨A, c, rfl, by omega, h2, h3, fun a ha j hj => ?_⟩
  rw [hr a ha j (by omega)]
  simp only [List.getD_eq_getElem?_getD, List.getElem?_dropLast, if_pos (show j < I.length - 1 by omega)]
theorem RefAt.still {w w' : World} {x : Nat} {R : Nat → Prop} {I O : List Int} (h : RefAt w x R I O) (hk : Keeps (fun _ => False) w w') : RefMoved w w' x R I O :=
  ⟨R, h.kept hk (fun h => h) (fun _ _ h => h), fun _ hk => .inl hk, hk.mono (fun _ _ h => h.elim)⟩
theorem row_empty_at (w : World) (g : Nat) (h : w.heap.size = g) : Row (w.alloc (.cells #[] 3)) (.slice (some ⟨g, 0, none⟩) 0 0) [] := h ▸ row_empty w

set_option maxHeartbeats 4000000 in
theorem ref_read (w : World) (x : Nat) (R : Nat → Prop) (I O : List Int) (n : Int) (h : RefAt w x R I O) :
    Calls Try.prog 17 #[.pointer (some ⟨x, 0, none⟩), .agg #[.int .i64 1, .int .i64 n]] w fun e w' => e = .returned (.tuple #[.int .i64 (firstN I), .int .i64 (emptyE I)]) ∧ RefMoved w w' x R I.tail O := by
  have hk0 : Hid (Keeps (fun _ => False) w (w.alloc (.cells #[.int .i64 1, .int .i64 n] 37))) := (Keeps.refl _ w).alloc _
  have hend := Lib.hid (h.still hk0.out)
  obtain ⟨vi, vo, h0, h1, h2, h3, h4, h5, h6, h7⟩ := h.kept hk0.out (fun h => h) (fun _ _ h => h)
  have c0 : (w.alloc (.cells #[.int .i64 1, .int .i64 n] 37)).cell? ⟨x, 0, none⟩ = some vi := by rw [cell_of_block h0]; rfl
  have f0 : (w.alloc (.cells #[.int .i64 1, .int .i64 n] 37)).frozen? ⟨x, 0, none⟩ = false := free_of_block h0
  have H0 := Lib.hid h0; clear h0
  have H1 := Lib.hid h1
  have H2 := Lib.hid h2; clear h2
  have H3 := Lib.hid h3; clear h3
  have H4 := Lib.hid h4; clear h4
  have H5 := Lib.hid h5; clear h5
  have H6 := Lib.hid h6; clear h6
  have H7 := Lib.hid h7; clear h7
  obtain ⟨A, c, rfl⟩ := h1.form
  clear h h1
  cases I with
  | nil =>
    clear H0 H1 H3
    go_enter Try.func17, Try.ntmps17
    go_wp2
    go_ret2
    exact ⟨rfl, hend.out⟩
  | cons z I =>
    obtain ⟨b, off, rfl, hc⟩ := H1.out.addr (by simp)
    have d0 : (w.alloc (.cells #[.int .i64 1, .int .i64 n] 37)).cell? ⟨b, off, none⟩ = some (.int .i64 z) := by simpa using hc 0 (by simp)
    clear hc
    have hl0 : (((z :: I).length : Nat) : Int) ≤ 4096 := by have := H6.out; omega
    obtain ⟨m, hm⟩ : ∃ m, m = I.length := ⟨_, rfl⟩
    have hcc : Hid (1 ≤ c ∧ m + 1 ≤ c ∧ c ≤ maxLen) := by
      obtain ⟨_, c', e, k1, k2, _⟩ := H1.out
      injection e with _ _ e3
      subst e3
      simp only [List.length_cons] at k1
      exact ⟨by omega, by omega, k2⟩
    have hmI := Lib.hid hm
    rw [List.length_cons, ← hm] at c0
    clear hm hl0
    have kb : Hid (Keeps (fun _ => False) (w.alloc (.cells #[.int .i64 1, .int .i64 n] 37)) ((w.alloc (.cells #[.int .i64 1, .int .i64 n] 37)).alloc (.cells #[] 3))) := (Keeps.refl _ _).alloc _
    have c1 := kb.out.cell' c0
    have hc1 : (1 : Int) ≤ (c : Int) := by have := hcc.out.1; omega
    have hm1 : (m : Int) + 1 ≤ (c : Int) := by have := hcc.out.2.1; omega
    have hsize : Hid (w.heap.size + 1 ≤ ((w.alloc (.cells #[.int .i64 1, .int .i64 n] 37)).alloc (.cells #[] 3)).heap.size) := by show _ ≤ _; simp
    have hlenI : Hid (([] : List Int).length + I.length ≤ 1000000) := by have := H6.out; simp only [List.length_cons] at this; show _ ≤ _; simp; omega
    have fin : ∀ (v' : Value) (w1 : World), Row w1 v' I → (∀ k, v'.ownBlock = some k → w.heap.size + 1 ≤ k) → Keeps (fun k => (Value.slice (some ⟨w.heap.size + 1, 0, none⟩) 0 0).ownBlock = some k) ((w.alloc (.cells #[.int .i64 1, .int .i64 n] 37)).alloc (.cells #[] 3)) w1 →
        Hid (RefMoved w (w1.setCell ⟨x, 0, none⟩ v') x R I O) ∧ w1.cell? ⟨x, 0, none⟩ = some (.slice (some ⟨b, off, none⟩) (m + 1) c) ∧ w1.frozen? ⟨x, 0, none⟩ = false ∧ ∃ A' n' c', v' = .slice A' n' c' := fun v' w1 hr hb hk => by
      have kk : Keeps (fun _ => False) (w.alloc (.cells #[.int .i64 1, .int .i64 n] 37)) w1 := kb.out.trans hk (fun i hi hs => by have := own_ge i hs; simp at this hi; omega)
      obtain ⟨A', c', hv'⟩ := hr.shape
      refine ⟨RefMoved.of_new hk0.out (ref_store H0.out H1.out H2.out H3.out H4.out H5.out kk (fun k e => by have := hb k e; simp; omega) (.inl ⟨rfl, hr, rfl⟩) (by have := H6.out; simp only [List.length_cons] at this; omega) H7.out), kk.cell' c0, ?_, A', _, c', hv'⟩
      exact free_of_block ((kk.block x (lt_of_block' H0.out) (fun h => h)).trans H0.out)
    have FIN := Lib.hid fin; clear fin f0
    have HSZ := Lib.hid (row_empty_at (w.alloc (.cells #[.int .i64 1, .int .i64 n] 37)) (w.heap.size + 1) (by simp))
    by_cases hcase : c = 1
    · subst hcase
      have hI : I = [] := List.length_eq_zero_iff.1 (by have := hcc.out.2.1; have := hmI.out; omega)
      subst hI
      obtain rfl : m = 0 := by have := hmI.out; simpa using this
      have hrd := Lib.hid (reads_zero ((w.alloc (.cells #[.int .i64 1, .int .i64 n] 37)).alloc (.cells #[] 3)) ⟨b, off, none⟩ 0 (Nat.zero_le _))
      clear hm1 hc1
      go_enter Try.func17, Try.ntmps17
      go_wp2_with (at_builtin; refine wpList_append_reads rfl (.tmp 60) (.tmp 65) rfl (w.heap.size + 1) _ _ [] [] rfl rfl HSZ.out own_ge hsize.out hrd.out hlenI.out ?_)
      intro v' w1 hr hb hk
      obtain ⟨hm', c2, f2, A', n', c', rfl⟩ := FIN.out v' w1 hr hb hk
      clear hr hb hk c0 c1 d0
      go_wp2
      go_ret2
      exact ⟨rfl, hm'.out⟩
    · have hrd := Lib.hid ((reads_drop1 H1.out hmI.out).kept kb.out (fun _ _ h => h))
      go_enter Try.func17, Try.ntmps17
      go_wp2_with (at_builtin; refine wpList_append_reads rfl (.tmp 60) (.tmp 65) rfl (w.heap.size + 1) _ _ [] I rfl rfl HSZ.out own_ge hsize.out hrd.out hlenI.out ?_)
      intro v' w1 hr hb hk
      obtain ⟨hm', c2, f2, A', n', c', rfl⟩ := FIN.out v' w1 hr hb hk
      clear hr hb hk c0 c1 d0 hcase
      go_wp2
      go_ret2
      exact ⟨rfl, hm'.out⟩

theorem Keeps.undrew {S : Nat → Prop} {w w' : World} (h : Keeps S w.drew w') : Keeps S w w' := ⟨h.os, h.tape, h.output, h.size, h.block⟩
theorem row_one (w : World) (n : Int) (g : Nat) (h : w.heap.size = g) : Row (w.alloc (.cells #[.int .i64 n] 3)) (.slice (some ⟨g, 0, none⟩) 1 1) [n] := by
  subst h
  exact .inr ⟨w.heap.size, 1, _, rfl, heap_new w _, rfl, Nat.le_refl _, by unfold maxLen; omega, fun j hj => by
    obtain rfl : j = 0 := by simpa using hj
    rfl⟩

set_option maxHeartbeats 4000000 in
set_option maxRecDepth 100000 in
theorem ref_unread (w : World) (x : Nat) (R : Nat → Prop) (I O : List Int) (n : Int) (h : RefAt w x R I O) :
    Calls Try.prog 17 #[.pointer (some ⟨x, 0, none⟩), .agg #[.int .i64 2, .int .i64 n]] w fun e w' => e = .returned (.tuple #[.int .i64 0, .int .i64 (fullE I)]) ∧ RefMoved w w' x R (pushF I n) O := by
  have hk0 : Hid (Keeps (fun _ => False) w (w.alloc (.cells #[.int .i64 2, .int .i64 n] 37))) := (Keeps.refl _ w).alloc _
  have hend := Lib.hid (h.still hk0.out)
  obtain ⟨vi, vo, h0, h1, h2, h3, h4, h5, h6, h7⟩ := h.kept hk0.out (fun h => h) (fun _ _ h => h)
  have c0 : (w.alloc (.cells #[.int .i64 2, .int .i64 n] 37)).cell? ⟨x, 0, none⟩ = some vi := by rw [cell_of_block h0]; rfl
  have H0 := Lib.hid h0; clear h0
  have H1 := Lib.hid h1
  have H2 := Lib.hid h2; clear h2
  have H3 := Lib.hid h3; clear h3
  have H4 := Lib.hid h4; clear h4
  have H5 := Lib.hid h5; clear h5
  have H6 := Lib.hid h6; clear h6
  have H7 := Lib.hid h7; clear h7
  obtain ⟨A, c, rfl⟩ := h1.form
  clear h h1
  by_cases hfull : 4096 ≤ I.length
  · have hf' : (4096 : Int) ≤ (I.length : Int) := by omega
    rw [fullE_ge hfull, pushF_ge n hfull]
    clear hfull
    go_enter Try.func17, Try.ntmps17
    go_wp2
    go_ret2
    exact ⟨rfl, hend.out⟩
  · have hf' : decide ((4096 : Int) ≤ (I.length : Int)) = false := by rw [decide_eq_false_iff_not]; omega
    have hlt : Hid (I.length < 4096) := by show _ < _; omega
    rw [fullE_lt hlt.out]
    have kb : Hid (Keeps (fun _ => False) (w.alloc (.cells #[.int .i64 2, .int .i64 n] 37)) ((w.alloc (.cells #[.int .i64 2, .int .i64 n] 37)).alloc (.cells #[.int .i64 n] 3))) := (Keeps.refl _ _).alloc _
    have c1 := kb.out.cell' c0
    have hsize : Hid (w.heap.size + 1 ≤ ((w.alloc (.cells #[.int .i64 2, .int .i64 n] 37)).alloc (.cells #[.int .i64 n] 3)).heap.size) := by show _ ≤ _; simp
    have hlenI : Hid (([n] : List Int).length + I.length ≤ 1000000) := by have := hlt.out; show _ ≤ _; simp; omega
    have fin : ∀ (v' : Value) (w1 : World), Row w1 v' ([n] ++ I) → (∀ k, v'.ownBlock = some k → w.heap.size + 1 ≤ k) → Keeps (fun k => (Value.slice (some ⟨w.heap.size + 1, 0, none⟩) 1 1).ownBlock = some k) ((w.alloc (.cells #[.int .i64 2, .int .i64 n] 37)).alloc (.cells #[.int .i64 n] 3)) w1 →
        Hid (RefMoved w (w1.setCell ⟨x, 0, none⟩ v') x R (pushF I n) O) ∧ w1.cell? ⟨x, 0, none⟩ = some (.slice A I.length c) ∧ w1.frozen? ⟨x, 0, none⟩ = false ∧ ∃ A' n' c', v' = .slice A' n' c' := fun v' w1 hr hb hk => by
      have kk : Keeps (fun _ => False) (w.alloc (.cells #[.int .i64 2, .int .i64 n] 37)) w1 := kb.out.trans hk (fun i hi hs => by have := own_ge i hs; simp at this hi; omega)
      obtain ⟨A', c', hv'⟩ := hr.shape
      have hpu : pushF I n = [n] ++ I := by unfold pushF; rw [if_neg (by have := hlt.out; omega)]; rfl
      refine ⟨RefMoved.of_new hk0.out (ref_store H0.out H1.out H2.out H3.out H4.out H5.out kk (fun k e => by have := hb k e; simp; omega) (.inl ⟨rfl, by rw [hpu]; exact hr, rfl⟩) (pushF_le n H6.out) H7.out), kk.cell' c0, ?_, A', _, c', hv'⟩
      exact free_of_block ((kk.block x (lt_of_block' H0.out) (fun h => h)).trans H0.out)
    have FIN := Lib.hid fin; clear fin hfull
    have HSZ := Lib.hid (row_one (w.alloc (.cells #[.int .i64 2, .int .i64 n] 37)) n (w.heap.size + 1) (by simp))
    have hrd := Lib.hid (H1.out.kept kb.out (fun _ _ h => h))
    go_enter Try.func17, Try.ntmps17
    go_wp2
    go_region_law (refine step_append_reads rfl (.tmp 81) (.tmp 85) rfl (w.heap.size + 1) (.slice (some ⟨w.heap.size + 1, 0, none⟩) 1 1) (.slice A I.length c) [n] I (by simp [Act.eval]) (by simp [Act.eval]) (by exact HSZ.out) own_ge (by exact hsize.out) (by exact hrd.out) hlenI.out ?_; intro v' w1 hr hb hk; obtain ⟨hm', c2, f2, A', n', c', rfl⟩ := FIN.out v' w1 hr hb hk.undrew; clear hr hb hk c0 c1)
    all_goals (go_wp2; go_ret2; exact ⟨rfl, hm'.out⟩)

end Go.Proofs.Ytadmmpfjdnfefaa
