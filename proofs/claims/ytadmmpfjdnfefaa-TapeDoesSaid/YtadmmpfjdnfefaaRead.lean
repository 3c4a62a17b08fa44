/-
  The contracts of the functions that only read: slices.Clone, In, Out, Ints, same.
-/
import Derived.Test.YtadmmpfjdnfefaaTape
import Derived.LoopTactic
namespace Go.Proofs.Ytadmmpfjdnfefaa
open Go.RowKit

theorem Reads.addr {w : World} {A : Option Addr} {c : Nat} {zs : List Int} (h : Reads w (.slice A zs.length c) zs) (hn : 0 < zs.length) :
    ∃ b off, A = some ⟨b, off, none⟩ ∧ ∀ j, j < zs.length → w.cell? ⟨b, off + j, none⟩ = some (.int .i64 (zs.getD j 0)) := by
  obtain ⟨A', c', e, h1, h2, h3, hr⟩ := h
  injection e with e1 e2 e3
  subst e1 e3
  match A, h3, hr with
  | none, h3, _ => have := h3 rfl; omega
  | some ⟨b, off, spot⟩, _, hr =>
    have h0 := hr _ rfl 0 hn
    have hs : spot = none := by simpa [Addr.add] using World.cell?_spot h0
    subst hs
    refine ⟨b, off, rfl, fun j hj => ?_⟩
    have := hr _ rfl j hj
    rwa [show (⟨b, off, none⟩ : Addr).add j = ⟨b, off + j, none⟩ by (unfold Addr.add; split <;> simp_all)] at this

/-- A result in new memory. -/
def Fresh (w w' : World) (v : Value) (zs : List Int) : Prop := Row w' v zs ∧ (∀ k, v.ownBlock = some k → w.heap.size ≤ k) ∧ Keeps (fun _ => False) w w'

theorem clone_any (w : World) (v : Value) (zs : List Int) (h : Reads w v zs) (hb : zs.length ≤ 5000) :
    Calls Try.prog 25 #[v] w fun e w' => ∃ v', e = .returned v' ∧ Fresh w w' v' zs := by
  have h' := h
  obtain ⟨A, c, rfl, h1, h2, h3, hr⟩ := h
  match A with
  | none =>
    have h0 : zs = [] := List.length_eq_zero_iff.1 (by have := h3 rfl; omega)
    subst h0
    refine (Try.slices_Clone_int_nil _ _ w).mono ?_
    rintro e w' ⟨rfl, rfl⟩
    exact ⟨_, rfl, Row.nil _, fun k hk => by simp [Value.ownBlock] at hk, Keeps.refl _ _⟩
  | some a =>
    have hend : ∀ (v' : Value) (w' : World) (n : Nat), w'.ownsRow w.heap.size 3 1 v' n (zs.map (Value.int .i64)) → Below w.heap.size w w' → Fresh w w' v' zs := fun v' w' n ho hbl =>
      ⟨(Row.of_owns ho).1, (Row.of_owns ho).2.2, Keeps.of_new hbl⟩
    by_cases hz : zs.length = 0
    · have h0 : zs = [] := List.length_eq_zero_iff.1 hz
      subst h0
      refine (Try.slices_Clone_int_zero a c w).mono ?_
      rintro e w' ⟨v', rfl, ho, _, hbl⟩
      exact ⟨v', rfl, hend v' w' 0 ho hbl⟩
    · obtain ⟨b, off, e, hcell⟩ := h'.addr (by omega)
      injection e with e
      subst e
      refine (Try.slices_Clone_int b off zs.length c zs w (Nat.le_refl _) (by omega) hcell).mono ?_
      rintro e w' ⟨v', rfl, ho, _, hbl⟩
      rw [List.take_length] at ho
      exact ⟨v', rfl, hend v' w' _ ho hbl⟩

theorem in_any (w : World) (p : Nat) (F : Nat → Prop) (I O : List Int) (h : TapeAt w p F I O) :
    Calls Try.prog 14 #[.pointer (some ⟨p, 0, none⟩)] w fun e w' => ∃ v', e = .returned v' ∧ Fresh w w' v' I := by
  obtain ⟨vi, vo, hp, hi, ho, hd, h1, h2, hF⟩ := h
  have hc : w.cell? ⟨p, 0, none⟩ = some vi := by rw [cell_of_block hp]; rfl
  have HI := Lib.hid hi; clear hi
  have H1 := Lib.hid h1; clear h1
  clear hp ho hd h2 hF
  have hex : ∃ A n c, vi = .slice A n c := by
    obtain ⟨A, c, h, _⟩ := HI.out.reads
    exact ⟨_, _, _, h⟩
  obtain ⟨A, n, c, hv⟩ := hex
  subst hv
  go_enter Try.func14, Try.ntmps14
  go_wp2_with fail
  refine (clone_any _ _ I HI.out.reads (by have := H1.out; omega)).mono ?_
  rintro e w1 ⟨v', rfl, hf⟩
  have HF := Lib.hid hf; clear hf
  go_wp2
  go_ret
  exact ⟨_, rfl, HF.out⟩

theorem out_any (w : World) (p : Nat) (F : Nat → Prop) (I O : List Int) (h : TapeAt w p F I O) :
    Calls Try.prog 19 #[.pointer (some ⟨p, 0, none⟩)] w fun e w' => ∃ v', e = .returned v' ∧ Fresh w w' v' O := by
  obtain ⟨vi, vo, hp, hi, ho, hd, h1, h2, hF⟩ := h
  have hc : w.cell? ⟨p, 1, none⟩ = some vo := by rw [cell_of_block hp]; rfl
  have HI := Lib.hid ho; clear ho
  have H1 := Lib.hid h2; clear h2
  clear hp hi hd h1 hF
  have hex : ∃ A n c, vo = .slice A n c := by
    obtain ⟨A, c, h, _⟩ := HI.out.reads
    exact ⟨_, _, _, h⟩
  obtain ⟨A, n, c, hv⟩ := hex
  subst hv
  go_enter Try.func19, Try.ntmps19
  go_wp2_with fail
  refine (clone_any _ _ O HI.out.reads (by have := H1.out; omega)).mono ?_
  rintro e w1 ⟨v', rfl, hf⟩
  have HF := Lib.hid hf; clear hf
  go_wp2
  go_ret
  exact ⟨_, rfl, HF.out⟩

def eqB (xs ys : List Int) : Bool := decide (xs = ys)

theorem take_snoc_eq {xs ys : List Int} {k : Nat} (h : k < xs.length) (hl : xs.length = ys.length) (ht : xs.take k = ys.take k) (he : xs.getD k 0 = ys.getD k 0) : xs.take (k + 1) = ys.take (k + 1) := by
  rw [List.take_succ_eq_append_getElem h, List.take_succ_eq_append_getElem (by omega), ht]
  simp only [List.getD_eq_getElem?_getD, List.getElem?_eq_getElem h, List.getElem?_eq_getElem (show k < ys.length by omega), Option.getD_some] at he
  rw [he]
theorem eqB_ne {xs ys : List Int} {k : Nat} (_h : k < xs.length) (_hl : xs.length = ys.length) (he : ¬ xs.getD k 0 = ys.getD k 0) : eqB xs ys = false := by
  unfold eqB
  rw [decide_eq_false_iff_not]
  rintro rfl
  exact he rfl
theorem eqB_all {xs ys : List Int} {k : Nat} (h : xs.length ≤ k) (hl : xs.length = ys.length) (ht : xs.take k = ys.take k) : eqB xs ys = true := by
  unfold eqB
  rw [decide_eq_true_eq]
  rwa [List.take_of_length_le h, List.take_of_length_le (by omega)] at ht

theorem ints_lens (w : World) (A B : Option Addr) (n m c d : Nat) (h : n ≠ m) :
    Calls Try.prog 24 #[.slice A n c, .slice B m d] w fun e w' => e = .returned (.bool false) ∧ w = w' := by
  have hd : ((n : Int) != (m : Int)) = true := by rw [bne_iff_ne]; omega
  clear h
  go_enter Try.func24, Try.ntmps24
  go_wp2
  go_ret
  exact ⟨rfl, rfl⟩

theorem ints_empty (w : World) (A B : Option Addr) (c d : Nat) :
    Calls Try.prog 24 #[.slice A 0 c, .slice B 0 d] w fun e w' => e = .returned (.bool true) ∧ w = w' := by
  go_enter Try.func24, Try.ntmps24
  go_wp2
  refine wp_loop_rounds 1 ?_
  rw [rounds_succ]
  go_wp2
  go_ret
  exact ⟨rfl, rfl⟩

set_option maxHeartbeats 1000000 in
theorem ints_same (w : World) (b o b' o' c d : Nat) (xs ys : List Int) (hl : xs.length = ys.length) (hm : xs.length ≤ 9223372036854775807)
    (hx : ∀ j, j < xs.length → w.cell? ⟨b, o + j, none⟩ = some (.int .i64 (xs.getD j 0))) (hy : ∀ j, j < ys.length → w.cell? ⟨b', o' + j, none⟩ = some (.int .i64 (ys.getD j 0))) :
    Calls Try.prog 24 #[.slice (some ⟨b, o, none⟩) xs.length c, .slice (some ⟨b', o', none⟩) xs.length d] w fun e w' => e = .returned (.bool (eqB xs ys)) ∧ ∃ n, w' = w.drewN n := by
  have HL := Lib.hid hl; clear hl
  have HX := Lib.hid hx; clear hx
  have HY := Lib.hid hy; clear hy
  go_enter Try.func24, Try.ntmps24
  go_wp2
  go_loopw [5] (fun i wr => ∃ k : Nat, k ≤ xs.length ∧ i = .int .i64 k ∧ Hid (xs.take k = ys.take k) ∧ ∃ n, wr = w.drewN n) (fun i _ => xs.length - (intOf i).toNat)
  case atStart => exact ⟨0, Nat.zero_le _, rfl, rfl, 0, rfl⟩
  case round =>
    obtain ⟨k, hk, rfl, ht, n, rfl⟩ := hrel
    by_cases hlt : k < xs.length
    · obtain ⟨x, hxx⟩ : ∃ x, x = xs.getD k 0 := ⟨_, rfl⟩
      obtain ⟨y, hyy⟩ : ∃ y, y = ys.getD k 0 := ⟨_, rfl⟩
      have hcx : w.cell? ⟨b, o + k, none⟩ = some (.int .i64 x) := by rw [hxx]; exact HX.out k hlt
      have hcy : w.cell? ⟨b', o' + k, none⟩ = some (.int .i64 y) := by rw [hyy]; exact HY.out k (by rw [← HL.out]; exact hlt)
      have HXX := Lib.hid hxx; clear hxx
      have HYY := Lib.hid hyy; clear hyy
      have hi : (k : Int) < (xs.length : Int) := by omega
      by_cases he : x = y
      · have hb : (x != y) = false := by simp [he]
        have hs := Lib.hid (take_snoc_eq hlt HL.out ht.out (by rw [← HXX.out, ← HYY.out]; exact he))
        clear he
        go_wp2
        go_quiet (fail)
        go_wp2
        go_roundw
        case rel => exact ⟨k + 1, by omega, by go_num, hs, _, rfl⟩
        case measure => simp [intOf]; omega
      · have hb : (x != y) = true := by simp [he]
        have hs := Lib.hid (eqB_ne hlt HL.out (by rw [← HXX.out, ← HYY.out]; exact he))
        clear he
        go_wp2
        go_quiet (fail)
        go_wp2
        go_ret
        exact ⟨by rw [hs.out]; rfl, _, World.drewN_drewN ..⟩
    · have hs := Lib.hid (eqB_all (by omega) HL.out ht.out)
      go_wp2
      go_ret
      exact ⟨by rw [hs.out]; rfl, _, rfl⟩

/-- Two readings, held one against the other. -/
theorem ints_any (w : World) (a b : Value) (xs ys : List Int) (ha : Reads w a xs) (hb : Reads w b ys) :
    Calls Try.prog 24 #[a, b] w fun e w' => e = .returned (.bool (eqB xs ys)) ∧ ∃ n, w' = w.drewN n := by
  have ha' := ha
  have hb' := hb
  obtain ⟨A, c, rfl, h1, h2, _⟩ := ha'
  obtain ⟨B, d, rfl, _⟩ := hb'
  by_cases hl : xs.length = ys.length
  · by_cases h0 : xs.length = 0
    · have hx : xs = [] := List.length_eq_zero_iff.1 h0
      have hy : ys = [] := List.length_eq_zero_iff.1 (by omega)
      subst hx hy
      refine (ints_empty w A B c d).mono ?_
      rintro e w' ⟨rfl, rfl⟩
      exact ⟨rfl, 0, rfl⟩
    · obtain ⟨b, o, rfl, hx⟩ := ha.addr (by omega)
      obtain ⟨b', o', rfl, hy⟩ := hb.addr (by omega)
      rw [← hl]
      unfold maxLen at h2
      exact ints_same w b o b' o' c d xs ys hl (by omega) hx hy
  · refine (ints_lens w A B _ _ c d hl).mono ?_
    rintro e w' ⟨rfl, rfl⟩
    refine ⟨?_, 0, rfl⟩
    have : eqB xs ys = false := by unfold eqB; rw [decide_eq_false_iff_not]; rintro rfl; exact hl rfl
    rw [this]

theorem Keeps.refl_drewN (S : Nat → Prop) (w : World) (n : Nat) : Keeps S w (w.drewN n) := (Keeps.refl S w).drewN n

def sameB (I O xs ys : List Int) : Bool := eqB I xs && eqB O ys

set_option maxHeartbeats 400000 in
theorem same_any (w : World) (p : Nat) (F : Nat → Prop) (I O : List Int) (h : TapeAt w p F I O) (a b : Value) (xs ys : List Int) (ha : Reads w a xs) (hb : Reads w b ys) :
    Calls Try.prog 15 #[.pointer (some ⟨p, 0, none⟩), a, b] w fun e w' => e = .returned (.bool (sameB I O xs ys)) ∧ Keeps (fun _ => False) w w' := by
  have HT := Lib.hid h; clear h
  have HA := Lib.hid ha; clear ha
  have HB := Lib.hid hb; clear hb
  cases hI : eqB I xs with
  | false =>
    have hs : Hid (sameB I O xs ys = false) := by show _ = _; unfold sameB; rw [hI]; rfl
    have HE := Lib.hid hI; clear hI
    go_enter Try.func15, Try.ntmps15
    go_wp2_with fail
    refine (in_any _ p F I O HT.out).mono ?_
    rintro e w1 ⟨v1, rfl, hf⟩
    have HF := Lib.hid hf; clear hf
    go_wp2_with fail
    refine (ints_any _ _ _ I xs HF.out.1.reads (HA.out.kept HF.out.2.2 (fun _ _ h => h))).mono ?_
    rintro e w2 ⟨rfl, n, rfl⟩
    rw [HE.out]
    go_wp2
    go_ret
    exact ⟨by rw [hs.out]; rfl, HF.out.2.2.drewN n⟩
  | true =>
    have hs : Hid (sameB I O xs ys = eqB O ys) := by show _ = _; unfold sameB; rw [hI]; rfl
    have HE := Lib.hid hI; clear hI
    go_enter Try.func15, Try.ntmps15
    go_wp2_with fail
    refine (in_any _ p F I O HT.out).mono ?_
    rintro e w1 ⟨v1, rfl, hf⟩
    have HF := Lib.hid hf; clear hf
    go_wp2_with fail
    refine (ints_any _ _ _ I xs HF.out.1.reads (HA.out.kept HF.out.2.2 (fun _ _ h => h))).mono ?_
    rintro e w2 ⟨rfl, n, rfl⟩
    rw [HE.out]
    go_wp2_with fail
    have hk : Hid (Keeps (fun _ => False) w (w1.drewN n)) := HF.out.2.2.drewN n
    refine (out_any _ p F I O (HT.out.kept hk.out (fun _ _ h => h))).mono ?_
    rintro e w3 ⟨v3, rfl, hf3⟩
    have HF3 := Lib.hid hf3; clear hf3
    have hk3 : Hid (Keeps (fun _ => False) w w3) := hk.out.trans HF3.out.2.2 (fun _ _ h => h)
    go_wp2_with fail
    refine (ints_any _ _ _ O ys HF3.out.1.reads (HB.out.kept hk3.out (fun _ _ h => h))).mono ?_
    rintro e w4 ⟨rfl, m, rfl⟩
    go_wp2
    go_ret
    exact ⟨by rw [hs.out]; rfl, hk3.out.drewN m⟩

end Go.Proofs.Ytadmmpfjdnfefaa
