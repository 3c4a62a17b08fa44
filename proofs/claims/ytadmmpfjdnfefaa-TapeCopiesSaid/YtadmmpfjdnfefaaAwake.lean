/-
  awake, the chapter's example, answers true and writes new memory alone.
-/
import Derived.Test.YtadmmpfjdnfefaaDo
namespace Go.Proofs.Ytadmmpfjdnfefaa
open Go.RowKit

theorem reads_block {w : World} {g : Nat} {cur : Array Value} {e : TypeId} {f : Nat × Nat} {zs : List Int} (h : w.heap[g]? = some (.cells cur e f)) (hl : zs.length ≤ maxLen) (hc : ∀ j, j < zs.length → cur[j]? = some (.int .i64 (zs.getD j 0))) :
    Reads w (.slice (some ⟨g, 0, none⟩) zs.length zs.length) zs :=
  ⟨some ⟨g, 0, none⟩, zs.length, rfl, Nat.le_refl _, hl, (fun h => by cases h), fun a ha j hj => by
    injection ha with ha; subst ha
    rw [show (⟨g, 0, none⟩ : Addr).add j = ⟨g, j, none⟩ by (unfold Addr.add; split <;> simp_all), cell_of_block h]
    exact hc j hj⟩
theorem reads_nil (w : World) : Reads w (.slice none 0 0) [] := (Row.nil w).reads

theorem keeps_new (w w' : World) (h : Keeps (fun _ => False) w w') (S : Nat → Prop) : Keeps S w w' := h.mono (fun _ _ h => h.elim)
theorem Moved.keeps {w0 w w' : World} {p : Nat} {F : Nat → Prop} {I O : List Int} (h : Moved w w' p F I O) (hw : Keeps (fun _ => False) w0 w) (hF : ∀ k, F k → w0.heap.size ≤ k) : Keeps (fun _ => False) w0 w' := by
  obtain ⟨_, _, _, hk⟩ := h
  exact hw.trans hk (fun i hi hF' => by have := hF i hF'; omega)

/-- A tape in new memory, seen from the world in which the call began. -/
def Live (w0 w : World) (p : Nat) (I O : List Int) : Prop := ∃ F : Nat → Prop, TapeAt w p F I O ∧ (∀ k, F k → w0.heap.size ≤ k) ∧ Keeps (fun _ => False) w0 w
theorem Live.of_made {w0 w w' : World} {p : Nat} {I O : List Int} (h : Made w w' p I O) (hw : Keeps (fun _ => False) w0 w) : Live w0 w' p I O := by
  obtain ⟨F, h1, h2, h3⟩ := h
  have := hw.size
  exact ⟨F, h1, fun k hk => by have := h2 k hk; omega, hw.trans h3 (fun _ _ h => h)⟩
theorem Live.step {w0 w w' : World} {p : Nat} {F : Nat → Prop} {I' O' : List Int} (h2 : ∀ k, F k → w0.heap.size ≤ k) (h3 : Keeps (fun _ => False) w0 w) (hm : Moved w w' p F I' O') : Live w0 w' p I' O' := by
  obtain ⟨F', a, b, c⟩ := hm
  have := h3.size
  exact ⟨F', a, fun k hk => (b k hk).elim (h2 k) (fun h => by omega), h3.trans c (fun i hi hF' => by have := h2 i hF'; omega)⟩
theorem Live.kept {w0 w w' : World} {p : Nat} {I O : List Int} (h : Live w0 w p I O) (hk : Keeps (fun _ => False) w w') : Live w0 w' p I O := by
  obtain ⟨F, h1, h2, h3⟩ := h
  exact ⟨F, h1.kept hk (fun _ _ h => h), h2, h3.trans hk (fun _ _ h => h)⟩
theorem Live.foot {w0 w : World} {p : Nat} {I O : List Int} (h : Live w0 w p I O) : ∃ F, TapeAt w p F I O := by
  obtain ⟨F, h1, _⟩ := h
  exact ⟨F, h1⟩

/-- The operations' contracts over a tape in new memory. -/
theorem read_live (w0 w : World) (p : Nat) (I O : List Int) (h : Live w0 w p I O) :
    Calls Try.prog 20 #[.pointer (some ⟨p, 0, none⟩)] w fun e w' => e = .returned (.tuple #[.int .i64 (firstN I), .int .i64 (emptyE I)]) ∧ Live w0 w' p I.tail O := by
  obtain ⟨F, h1, h2, h3⟩ := h
  exact (read_any w p F I O h1).mono fun e w' ⟨he, hm⟩ => ⟨he, Live.step h2 h3 hm⟩
theorem unread_live (w0 w : World) (p : Nat) (I O : List Int) (n : Int) (h : Live w0 w p I O) :
    Calls Try.prog 23 #[.pointer (some ⟨p, 0, none⟩), .int .i64 n] w fun e w' => e = .returned (.int .i64 (fullE I)) ∧ Live w0 w' p (pushF I n) O := by
  obtain ⟨F, h1, h2, h3⟩ := h
  exact (unread_any w p F I O n h1).mono fun e w' ⟨he, hm⟩ => ⟨he, Live.step h2 h3 hm⟩
theorem write_live (w0 w : World) (p : Nat) (I O : List Int) (n : Int) (h : Live w0 w p I O) :
    Calls Try.prog 21 #[.pointer (some ⟨p, 0, none⟩), .int .i64 n] w fun e w' => e = .returned (.int .i64 (fullE O)) ∧ Live w0 w' p I (pushB O n) := by
  obtain ⟨F, h1, h2, h3⟩ := h
  exact (write_any w p F I O n h1).mono fun e w' ⟨he, hm⟩ => ⟨he, Live.step h2 h3 hm⟩
theorem unwrite_live (w0 w : World) (p : Nat) (I O : List Int) (h : Live w0 w p I O) :
    Calls Try.prog 22 #[.pointer (some ⟨p, 0, none⟩)] w fun e w' => e = .returned (.tuple #[.int .i64 (lastN O), .int .i64 (emptyE O)]) ∧ Live w0 w' p I O.dropLast := by
  obtain ⟨F, h1, h2, h3⟩ := h
  exact (unwrite_any w p F I O h1).mono fun e w' ⟨he, hm⟩ => ⟨he, Live.step h2 h3 hm⟩
theorem do_live (w0 w : World) (p : Nat) (I O : List Int) (o : Op2) (h : Live w0 w p I O) :
    Calls Try.prog 16 #[.pointer (some ⟨p, 0, none⟩), opV o] w fun e w' => e = .returned (.tuple #[.int .i64 (resN I O o), .int .i64 (resE I O o)]) ∧ Live w0 w' p (nextI I o) (nextO O o) := by
  obtain ⟨F, h1, h2, h3⟩ := h
  exact (do_any w p F I O h1 o).mono fun e w' ⟨he, hm⟩ => ⟨he, Live.step h2 h3 hm⟩

set_option maxHeartbeats 1000000 in
set_option maxRecDepth 100000 in
theorem awake_any (w : World) : Calls Try.prog 11 #[] w fun e w' => e = .returned (.bool true) ∧ Keeps (fun _ => False) w w' := by
  have hr := Lib.hid (reads_block (w := w.alloc (.cells #[.int .i64 5, .int .i64 6] 3)) (zs := [5, 6]) (heap_new w _) (by unfold maxLen; decide) (fun j hj => by
    match j, hj with
    | 0, _ => rfl
    | 1, _ => rfl))
  have hk0 : Hid (Keeps (fun _ => False) w (w.alloc (.cells #[.int .i64 5, .int .i64 6] 3))) := (Keeps.refl _ w).alloc _
  go_enter Try.func11, Try.ntmps11
  go_wp2_with fail
  refine (new_ok _ _ _ [5, 6] [] hr.out (reads_nil _) (by decide) (by decide)).mono ?_
  rintro e w1 ⟨p, rfl, hm⟩
  have hl := Lib.hid (Live.of_made hm hk0.out); clear hm
  go_wp2_with fail
  refine (show Calls Try.prog 20 #[.pointer (some ⟨p, 0, none⟩)] w1 fun e w' => e = .returned (.tuple #[.int .i64 5, .int .i64 0]) ∧ Live w w' p [6] [] from read_live w w1 p [5, 6] [] hl.out).mono ?_
  rintro e w2 ⟨rfl, h2⟩
  clear hl
  have hl := Lib.hid h2; clear h2
  go_wp2_with fail
  refine (show Calls Try.prog 23 #[.pointer (some ⟨p, 0, none⟩), .int .i64 7] w2 fun e w' => e = .returned (.int .i64 0) ∧ Live w w' p [7, 6] [] from unread_live w w2 p [6] [] 7 hl.out).mono ?_
  rintro e w3 ⟨rfl, h2⟩
  clear hl
  have hl := Lib.hid h2; clear h2
  go_wp2_with fail
  refine (show Calls Try.prog 22 #[.pointer (some ⟨p, 0, none⟩)] w3 fun e w' => e = .returned (.tuple #[.int .i64 0, .int .i64 17]) ∧ Live w w' p [7, 6] [] from unwrite_live w w3 p [7, 6] [] hl.out).mono ?_
  rintro e w4 ⟨rfl, h2⟩
  clear hl
  have hl := Lib.hid h2; clear h2
  go_wp2_with fail
  obtain ⟨F, hT⟩ := hl.out.foot
  refine (in_any _ p F [7, 6] [] hT).mono ?_
  rintro e w5 ⟨v5, rfl, hf⟩
  have HF := Lib.hid hf; clear hf
  have hl5 := Lib.hid (hl.out.kept HF.out.2.2); clear hl hT
  go_wp2_with fail
  have hr2 := Lib.hid (reads_block (w := w5.alloc (.cells #[.int .i64 7, .int .i64 6] 3)) (zs := [7, 6]) (heap_new w5 _) (by unfold maxLen; decide) (fun j hj => by
    match j, hj with
    | 0, _ => rfl
    | 1, _ => rfl))
  have hk5 : Hid (Keeps (fun _ => False) w5 (w5.alloc (.cells #[.int .i64 7, .int .i64 6] 3))) := (Keeps.refl _ w5).alloc _
  refine (show Calls Try.prog 24 #[v5, .slice (some ⟨w5.heap.size, 0, none⟩) 2 2] (w5.alloc (.cells #[.int .i64 7, .int .i64 6] 3)) fun e w' => e = .returned (.bool true) ∧ ∃ n, w' = (w5.alloc (.cells #[.int .i64 7, .int .i64 6] 3)).drewN n from ints_any _ _ _ [7, 6] [7, 6] (HF.out.1.kept hk5.out (fun _ _ h => h)).reads hr2.out).mono ?_
  rintro e w6 ⟨rfl, n, rfl⟩
  obtain ⟨_, _, _, hk6⟩ := hl5.out
  have HK := Lib.hid (hk6.trans hk5.out (fun _ _ h => h)); clear hk6
  go_wp2
  go_ret
  exact ⟨rfl, HK.out.drewN n⟩
end Go.Proofs.Ytadmmpfjdnfefaa
