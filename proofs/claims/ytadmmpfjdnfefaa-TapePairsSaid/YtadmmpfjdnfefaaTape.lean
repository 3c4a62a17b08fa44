/-
  The contracts of the tape's own operations over two lists: Read, Unread, Write, Unwrite, In, Out, New, and of the law's helpers do, same, inverse.
-/
import Derived.Test.YtadmmpfjdnfefaaOps
import Derived.StillTailTactics
import Derived.Deep.QuietTactic
import Derived.BigQuiet
import Derived.RegionTactic
import Derived.IntWalk
import Derived.Deep.RegionWith
namespace Go.Proofs.Ytadmmpfjdnfefaa
open Go.RowKit

def emptyE (zs : List Int) : Int := if zs.isEmpty then 17 else 0
def fullE (zs : List Int) : Int := if 4096 ≤ zs.length then 5 else 0
def pushF (zs : List Int) (n : Int) : List Int := if 4096 ≤ zs.length then zs else n :: zs
def pushB (zs : List Int) (n : Int) : List Int := if 4096 ≤ zs.length then zs else zs ++ [n]
def firstN (zs : List Int) : Int := zs.headD 0
def lastN (zs : List Int) : Int := zs.getLastD 0

theorem done_same {w : World} {p o : Nat} {arr : Array Value} {v : Value} {zs : List Int} (hp : w.heap[p]? = some (.cells arr 48 (0, 0))) (ho : arr[o]? = some v) (hr : Row w v zs) : Done w w p o arr v v zs := by
  refine ⟨?_, hr, fun k hk => .inl hk, Keeps.refl _ _⟩
  have : arr.setIfInBounds o v = arr := by
    apply Array.ext_getElem?
    intro j
    rw [Array.getElem?_setIfInBounds]
    by_cases h : o = j
    · subst h
      rw [if_pos rfl]
      have hlt := (Array.getElem?_eq_some_iff.1 ho).1
      rw [if_pos hlt, ho]
    · rw [if_neg h]
  rw [this]; exact hp

theorem remove_at (p o : Nat) (i : Int) (arr : Array Value) (w : World) (hp : w.heap[p]? = some (.cells arr 48 (0, 0))) (v : Value) (ho : arr[o]? = some v) (zs : List Int) (hrow : Row w v zs) (hi : zs ≠ [] → 0 ≤ i ∧ i < zs.length) :
    Calls Try.prog 26 #[.pointer (some ⟨p, o, none⟩), .int .i64 i] w fun e w' => e = .returned (.tuple #[.int .i64 (zs.getD i.toNat 0), .int .i64 (emptyE zs)]) ∧ ∃ v', Done w w' p o arr v v' (zs.eraseIdx i.toNat) := by
  by_cases hz : zs = []
  · subst hz
    obtain ⟨A, c, hv⟩ : ∃ A c, v = .slice A 0 c := by
      rcases hrow with ⟨rfl, _⟩ | ⟨g, c, cur, rfl, _⟩
      · exact ⟨_, _, rfl⟩
      · exact ⟨_, _, rfl⟩
    refine (remove_nil p o arr w hp A c (hv ▸ ho) i).mono ?_
    rintro e w' ⟨rfl, rfl⟩
    exact ⟨rfl, v, done_same hp ho hrow⟩
  · obtain ⟨h0, h1⟩ := hi hz
    obtain ⟨k, rfl⟩ := Int.eq_ofNat_of_zero_le h0
    refine (remove_some p o k arr w hp v ho zs hrow (by omega)).mono ?_
    rintro e w' ⟨rfl, hd⟩
    refine ⟨?_, hd⟩
    have : emptyE zs = 0 := by unfold emptyE; cases zs with | nil => exact absurd rfl hz | cons _ _ => rfl
    rw [this]; rfl

theorem insert_at (p o i : Nat) (arr : Array Value) (w : World) (hp : w.heap[p]? = some (.cells arr 48 (0, 0))) (v : Value) (ho : arr[o]? = some v) (zs : List Int) (hrow : Row w v zs) (hi : i ≤ zs.length) (n : Int) :
    Calls Try.prog 27 #[.pointer (some ⟨p, o, none⟩), .int .i64 i, .int .i64 n] w fun e w' => e = .returned (.int .i64 (fullE zs)) ∧ ∃ v', Done w w' p o arr v v' (if 4096 ≤ zs.length then zs else zs.insertIdx i n) := by
  by_cases hz : 4096 ≤ zs.length
  · refine (insert_full p o arr w hp v ho zs hrow hz i n).mono ?_
    rintro e w' ⟨rfl, rfl⟩
    refine ⟨by unfold fullE; rw [if_pos hz], v, ?_⟩
    rw [if_pos hz]; exact done_same hp ho hrow
  · refine (insert_any p o i arr w hp v ho zs hrow hi (by omega) n).mono ?_
    rintro e w' ⟨rfl, hd⟩
    refine ⟨by unfold fullE; rw [if_neg hz], ?_⟩
    rw [if_neg hz]; exact hd

/-- A tape at block p: its two lists; F: the blocks that it lives in. -/
def TapeAt (w : World) (p : Nat) (F : Nat → Prop) (I O : List Int) : Prop :=
  ∃ vi vo, w.heap[p]? = some (.cells #[vi, vo] 48 (0, 0)) ∧ Row w vi I ∧ Row w vo O ∧ (∀ k, vi.ownBlock = some k → vo.ownBlock = some k → False) ∧ I.length ≤ 4096 ∧ O.length ≤ 4096 ∧
    ∀ k, F k ↔ (k = p ∨ vi.ownBlock = some k ∨ vo.ownBlock = some k)

/-- What an operation leaves: the same tape with other lists, in its old blocks and new ones; nothing else has turned. -/
def Moved (w w' : World) (p : Nat) (F : Nat → Prop) (I O : List Int) : Prop :=
  ∃ F' : Nat → Prop, TapeAt w' p F' I O ∧ (∀ k, F' k → F k ∨ w.heap.size ≤ k) ∧ Keeps F w w'

theorem TapeAt.lt {w : World} {p : Nat} {F : Nat → Prop} {I O : List Int} (h : TapeAt w p F I O) (k : Nat) (hk : F k) : k < w.heap.size := by
  obtain ⟨vi, vo, hp, hi, ho, _, _, _, hF⟩ := h
  rcases (hF k).1 hk with rfl | h | h
  · exact lt_of_block' hp
  · exact hi.lt k h
  · exact ho.lt k h
theorem TapeAt.kept {S : Nat → Prop} {w w' : World} {p : Nat} {F : Nat → Prop} {I O : List Int} (h : TapeAt w p F I O) (hk : Keeps S w w') (hn : ∀ k, F k → ¬ S k) : TapeAt w' p F I O := by
  obtain ⟨vi, vo, hp, hi, ho, hd, h1, h2, hF⟩ := h
  exact ⟨vi, vo, (hk.block p (lt_of_block' hp) (hn p ((hF p).2 (.inl rfl)))).trans hp, hi.kept hk (fun k e => hn k ((hF k).2 (.inr (.inl e)))), ho.kept hk (fun k e => hn k ((hF k).2 (.inr (.inr e)))), hd, h1, h2, hF⟩
theorem TapeAt.moved {w : World} {p : Nat} {F : Nat → Prop} {I O : List Int} (h : TapeAt w p F I O) : Moved w w p F I O := ⟨F, h, fun _ hk => .inl hk, Keeps.refl _ _⟩

theorem Moved.of_drew {w w' : World} {p : Nat} {F : Nat → Prop} {I O : List Int} (h : Moved w.drew w' p F I O) : Moved w w' p F I O := by
  obtain ⟨F', h1, h2, h3⟩ := h
  exact ⟨F', h1, h2, ⟨h3.os, h3.tape, h3.output, h3.size, h3.block⟩⟩

theorem row_ne {w : World} {p : Nat} {arr : Array Value} (hp : w.heap[p]? = some (.cells arr 48 (0, 0))) {v : Value} {zs : List Int} (hr : Row w v zs) : v.ownBlock ≠ some p := fun e => by
  rcases hr with ⟨rfl, _⟩ | ⟨g, c', cur, rfl, hh, _⟩
  · simp [Value.ownBlock] at e
  · have : g = p := by simpa [Value.ownBlock] using e
    subst this
    rw [hp] at hh; injection hh with hh; injection hh with _ h2; exact absurd h2 (by decide)

theorem moved_in {w w' : World} {p : Nat} {F : Nat → Prop} {vi vo v' : Value} {I O I' : List Int} (hp : w.heap[p]? = some (.cells #[vi, vo] 48 (0, 0))) (_hi : Row w vi I) (ho : Row w vo O) (hd : ∀ k, vi.ownBlock = some k → vo.ownBlock = some k → False)
    (h1 : I'.length ≤ 4096) (h2 : O.length ≤ 4096) (hF : ∀ k, F k ↔ (k = p ∨ vi.ownBlock = some k ∨ vo.ownBlock = some k)) (h : Done w w' p 0 #[vi, vo] vi v' I') : Moved w w' p F I' O := by
  obtain ⟨d1, d2, d3, d4⟩ := h
  refine ⟨fun k => k = p ∨ v'.ownBlock = some k ∨ vo.ownBlock = some k, ⟨v', vo, d1, d2, ho.kept d4 (fun k hk hS => ?_), fun k a b => ?_, h1, h2, fun _ => Iff.rfl⟩, fun k hk => ?_, d4.mono fun k _ hk => (hF k).2 (hk.elim .inl (fun h => .inr (.inl h)))⟩
  · rcases hS with rfl | hS
    · exact row_ne hp ho hk
    · exact hd k hS hk
  · rcases d3 k a with h | h
    · exact hd k h b
    · have := ho.lt k b; omega
  · rcases hk with rfl | hk | hk
    · exact .inl ((hF k).2 (.inl rfl))
    · exact (d3 k hk).imp (fun h => (hF k).2 (.inr (.inl h))) id
    · exact .inl ((hF k).2 (.inr (.inr hk)))
theorem moved_out {w w' : World} {p : Nat} {F : Nat → Prop} {vi vo v' : Value} {I O O' : List Int} (hp : w.heap[p]? = some (.cells #[vi, vo] 48 (0, 0))) (hi : Row w vi I) (_ho : Row w vo O) (hd : ∀ k, vi.ownBlock = some k → vo.ownBlock = some k → False)
    (h1 : I.length ≤ 4096) (h2 : O'.length ≤ 4096) (hF : ∀ k, F k ↔ (k = p ∨ vi.ownBlock = some k ∨ vo.ownBlock = some k)) (h : Done w w' p 1 #[vi, vo] vo v' O') : Moved w w' p F I O' := by
  obtain ⟨d1, d2, d3, d4⟩ := h
  refine ⟨fun k => k = p ∨ vi.ownBlock = some k ∨ v'.ownBlock = some k, ⟨vi, v', d1, hi.kept d4 (fun k hk hS => ?_), d2, fun k a b => ?_, h1, h2, fun _ => Iff.rfl⟩, fun k hk => ?_, d4.mono fun k _ hk => (hF k).2 (hk.elim .inl (fun h => .inr (.inr h)))⟩
  · rcases hS with rfl | hS
    · exact row_ne hp hi hk
    · exact hd k hk hS
  · rcases d3 k b with h | h
    · exact hd k a h
    · have := hi.lt k a; omega
  · rcases hk with rfl | hk | hk
    · exact .inl ((hF k).2 (.inl rfl))
    · exact .inl ((hF k).2 (.inr (.inl hk)))
    · exact (d3 k hk).imp (fun h => (hF k).2 (.inr (.inr h))) id

theorem erase_first (zs : List Int) : zs.eraseIdx (0 : Int).toNat = zs.tail := by cases zs <;> rfl
theorem first_eq (zs : List Int) : zs.getD (0 : Int).toNat 0 = firstN zs := by cases zs <;> rfl
theorem tail_le {zs : List Int} {m : Nat} (h : zs.length ≤ m) : zs.tail.length ≤ m := by rw [List.length_tail]; omega
theorem dropLast_le {zs : List Int} {m : Nat} (h : zs.length ≤ m) : zs.dropLast.length ≤ m := by rw [List.length_dropLast]; omega
theorem pushF_le {zs : List Int} (n : Int) (h : zs.length ≤ 4096) : (pushF zs n).length ≤ 4096 := by
  unfold pushF
  split
  · exact h
  · simp only [List.length_cons]; omega
theorem pushB_le {zs : List Int} (n : Int) (h : zs.length ≤ 4096) : (pushB zs n).length ≤ 4096 := by
  unfold pushB
  split
  · exact h
  · simp only [List.length_append, List.length_singleton]; omega
theorem insert_last (zs : List Int) (n : Int) : zs.insertIdx zs.length n = zs ++ [n] := by
  apply List.ext_getElem?
  intro j
  rw [List.getElem?_insertIdx]
  by_cases h1 : j < zs.length
  · rw [if_pos h1, List.getElem?_append_left h1]
  · rw [if_neg h1, List.getElem?_append_right (by omega)]
    by_cases h2 : j = zs.length
    · subst h2; simp
    · rw [if_neg h2, List.getElem?_eq_none (by omega), List.getElem?_eq_none (by simp; omega)]
theorem erase_last (zs : List Int) : zs.eraseIdx ((zs.length : Int) - 1).toNat = zs.dropLast := by
  cases h : zs.length with
  | zero => rw [List.length_eq_zero_iff.1 h]; rfl
  | succ m =>
    rw [show (((m + 1 : Nat) : Int) - 1).toNat = m by omega]
    apply List.ext_getElem?
    intro j
    rw [List.getElem?_eraseIdx, List.getElem?_dropLast]
    split
    · rw [if_pos (by omega)]
    · rw [if_neg (by omega), List.getElem?_eq_none (by omega)]
theorem last_eq (zs : List Int) : zs.getD ((zs.length : Int) - 1).toNat 0 = lastN zs := by
  unfold lastN
  cases h : zs.length with
  | zero => rw [List.length_eq_zero_iff.1 h]; rfl
  | succ m =>
    rw [show (((m + 1 : Nat) : Int) - 1).toNat = m by omega, List.getLastD_eq_getLast?, List.getLast?_eq_getElem?, h, List.getD_eq_getElem?_getD]
    rfl

theorem read_any (w : World) (p : Nat) (F : Nat → Prop) (I O : List Int) (h : TapeAt w p F I O) :
    Calls Try.prog 20 #[.pointer (some ⟨p, 0, none⟩)] w fun e w' => e = .returned (.tuple #[.int .i64 (firstN I), .int .i64 (emptyE I)]) ∧ Moved w w' p F I.tail O := by
  obtain ⟨vi, vo, hp, hi, ho, hd, h1, h2, hF⟩ := h
  have HP := Lib.hid hp; clear hp
  have HF := Lib.hid hF; clear hF
  have HD := Lib.hid hd; clear hd
  have H1 := Lib.hid h1; clear h1
  have H2 := Lib.hid h2; clear h2
  go_enter Try.func20, Try.ntmps20
  go_wp2_with fail
  refine (remove_at p 0 0 #[vi, vo] _ HP.out vi rfl I hi (fun hn => ⟨by omega, by have := List.length_pos_iff.2 hn; omega⟩)).mono ?_
  rintro e w1 ⟨rfl, v', hdone⟩
  rw [erase_first] at hdone
  have hm := Lib.hid (moved_in HP.out hi ho HD.out (tail_le H1.out) H2.out HF.out hdone)
  clear hdone
  rw [first_eq]
  go_wp2
  go_ret2
  exact ⟨rfl, hm.out⟩

theorem unread_any (w : World) (p : Nat) (F : Nat → Prop) (I O : List Int) (n : Int) (h : TapeAt w p F I O) :
    Calls Try.prog 23 #[.pointer (some ⟨p, 0, none⟩), .int .i64 n] w fun e w' => e = .returned (.int .i64 (fullE I)) ∧ Moved w w' p F (pushF I n) O := by
  obtain ⟨vi, vo, hp, hi, ho, hd, h1, h2, hF⟩ := h
  have HP := Lib.hid hp; clear hp
  have HF := Lib.hid hF; clear hF
  have HD := Lib.hid hd; clear hd
  have H1 := Lib.hid h1; clear h1
  have H2 := Lib.hid h2; clear h2
  go_enter Try.func23, Try.ntmps23
  go_wp2_with fail
  refine (insert_at p 0 0 #[vi, vo] _ HP.out vi rfl I hi (Nat.zero_le _) n).mono ?_
  rintro e w1 ⟨rfl, v', hdone⟩
  have hm := Lib.hid (moved_in HP.out hi ho HD.out (pushF_le n H1.out) H2.out HF.out (I' := pushF I n) (by unfold pushF; simpa using hdone))
  clear hdone
  go_wp2
  go_ret
  exact ⟨rfl, hm.out⟩

set_option maxRecDepth 100000 in
theorem write_any (w : World) (p : Nat) (F : Nat → Prop) (I O : List Int) (n : Int) (h : TapeAt w p F I O) :
    Calls Try.prog 21 #[.pointer (some ⟨p, 0, none⟩), .int .i64 n] w fun e w' => e = .returned (.int .i64 (fullE O)) ∧ Moved w w' p F I (pushB O n) := by
  obtain ⟨vi, vo, hp, hi, ho, hd, h1, h2, hF⟩ := h
  have hc : w.cell? ⟨p, 1, none⟩ = some vo := by rw [cell_of_block hp]; rfl
  obtain ⟨A, c, hv⟩ : ∃ A c, vo = .slice A O.length c := by
    rcases ho with ⟨rfl, rfl⟩ | ⟨g, c, cur, rfl, _⟩
    · exact ⟨_, _, rfl⟩
    · exact ⟨_, _, rfl⟩
  subst hv
  have HP := Lib.hid hp; clear hp
  have HF := Lib.hid hF; clear hF
  have HD := Lib.hid hd; clear hd
  have H1 := Lib.hid h1; clear h1
  have H2 := Lib.hid h2; clear h2
  go_enter Try.func21, Try.ntmps21
  go_wp2
  go_still_tail 9, (by kernel_rfl)
  change wpList _ _ _ _ _ w.drew
  go_wp2_with fail
  refine (insert_at p 1 O.length #[vi, .slice A O.length c] w.drew HP.out _ rfl O ho (Nat.le_refl _) n).mono ?_
  rintro e w1 ⟨rfl, v', hdone⟩
  have hm := Lib.hid (Moved.of_drew (moved_out (w := w.drew) HP.out hi ho HD.out H1.out (pushB_le n H2.out) HF.out (O' := pushB O n) (by rw [insert_last] at hdone; exact hdone)))
  clear hdone
  go_wp2
  go_ret
  exact ⟨rfl, hm.out⟩

theorem remove_last (p : Nat) (vi v : Value) (w : World) (hp : w.heap[p]? = some (.cells #[vi, v] 48 (0, 0))) (O : List Int) (ho : Row w v O) :
    Calls Try.prog 26 #[.pointer (some ⟨p, 1, none⟩), .int .i64 ((O.length : Int) - 1)] w fun e w' => e = .returned (.tuple #[.int .i64 (lastN O), .int .i64 (emptyE O)]) ∧ ∃ v', Done w w' p 1 #[vi, v] v v' O.dropLast := by
  have h := remove_at p 1 ((O.length : Int) - 1) #[vi, v] w hp v rfl O ho (fun hn => by have := List.length_pos_iff.2 hn; omega)
  rw [erase_last, last_eq] at h
  exact h

set_option maxRecDepth 100000 in
theorem unwrite_any (w : World) (p : Nat) (F : Nat → Prop) (I O : List Int) (h : TapeAt w p F I O) :
    Calls Try.prog 22 #[.pointer (some ⟨p, 0, none⟩)] w fun e w' => e = .returned (.tuple #[.int .i64 (lastN O), .int .i64 (emptyE O)]) ∧ Moved w w' p F I O.dropLast := by
  obtain ⟨vi, vo, hp, hi, ho, hd, h1, h2, hF⟩ := h
  have hc : w.cell? ⟨p, 1, none⟩ = some vo := by rw [cell_of_block hp]; rfl
  obtain ⟨A, c, hv⟩ : ∃ A c, vo = .slice A O.length c := by
    rcases ho with ⟨rfl, rfl⟩ | ⟨g, c, cur, rfl, _⟩
    · exact ⟨_, _, rfl⟩
    · exact ⟨_, _, rfl⟩
  subst hv
  have HP := Lib.hid hp; clear hp
  have HF := Lib.hid hF; clear hF
  have HD := Lib.hid hd; clear hd
  have H1 := Lib.hid h1; clear h1
  have hll : (O.length : Int) ≤ 5000 := by omega
  have H2 := Lib.hid h2; clear h2
  have hwr : IntKind.i64.wrap ((O.length : Int) - 1) = (O.length : Int) - 1 := IntWalk.i64_in _ (by omega)
  go_enter Try.func22, Try.ntmps22
  go_wp2
  go_region_with (go_at_call 26; refine (remove_last p vi _ _ (by exact HP.out) O (by exact ho)).mono ?_; rintro e w1 ⟨rfl, v', hdone⟩; have hm := Lib.hid (Moved.of_drew (moved_out (w := w.drew) HP.out hi ho HD.out H1.out (dropLast_le H2.out) HF.out hdone)); clear hdone)
  go_wp2
  go_ret2
  exact ⟨rfl, hm.out⟩

end Go.Proofs.Ytadmmpfjdnfefaa
