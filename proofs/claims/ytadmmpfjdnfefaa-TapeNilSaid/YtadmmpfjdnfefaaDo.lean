/-
  The contracts of tape.New, of the law's helpers do, inverse, great, and of the reference's Do.
-/
import Derived.Test.YtadmmpfjdnfefaaRead
namespace Go.Proofs.Ytadmmpfjdnfefaa
open Go.RowKit

theorem new_big1 (w : World) (A B : Option Addr) (n m c d : Nat) (h : 4096 < n) :
    Calls Try.prog 13 #[.slice A n c, .slice B m d] w fun e w' => e = .returned (.tuple #[.pointer none, .int .i64 5]) ∧ w = w' := by
  have h' : (4096 : Int) < (n : Int) := by omega
  clear h
  go_enter Try.func13, Try.ntmps13
  go_wp2
  go_ret2
  exact ⟨rfl, rfl⟩
theorem new_big2 (w : World) (A B : Option Addr) (n m c d : Nat) (h0 : n ≤ 4096) (h : 4096 < m) :
    Calls Try.prog 13 #[.slice A n c, .slice B m d] w fun e w' => e = .returned (.tuple #[.pointer none, .int .i64 5]) ∧ w = w' := by
  have h' : (4096 : Int) < (m : Int) := by omega
  have h0' : decide ((4096 : Int) < (n : Int)) = false := by rw [decide_eq_false_iff_not]; omega
  clear h h0
  go_enter Try.func13, Try.ntmps13
  go_wp2
  go_ret2
  exact ⟨rfl, rfl⟩

/-- A new tape. -/
def Made (w w' : World) (p : Nat) (I O : List Int) : Prop := ∃ F : Nat → Prop, TapeAt w' p F I O ∧ (∀ k, F k → w.heap.size ≤ k) ∧ Keeps (fun _ => False) w w'

set_option maxRecDepth 100000 in
theorem new_ok (w : World) (a b : Value) (I O : List Int) (ha : Reads w a I) (hb : Reads w b O) (h1 : I.length ≤ 4096) (h2 : O.length ≤ 4096) :
    Calls Try.prog 13 #[a, b] w fun e w' => ∃ p, e = .returned (.tuple #[.pointer (some ⟨p, 0, none⟩), .int .i64 0]) ∧ Made w w' p I O := by
  have HA := Lib.hid ha
  have HB := Lib.hid hb
  obtain ⟨A, c, rfl, _⟩ := ha
  obtain ⟨B, d, rfl, _⟩ := hb
  have h1' : decide ((4096 : Int) < (I.length : Int)) = false := by rw [decide_eq_false_iff_not]; omega
  have h2' : decide ((4096 : Int) < (O.length : Int)) = false := by rw [decide_eq_false_iff_not]; omega
  have H1 := Lib.hid h1; clear h1
  have H2 := Lib.hid h2; clear h2
  go_enter Try.func13, Try.ntmps13
  go_wp2_with fail
  refine (clone_any _ _ I HA.out (by have := H1.out; omega)).mono ?_
  rintro e w1 ⟨v1, rfl, hf1⟩
  have HF1 := Lib.hid hf1; clear hf1
  go_wp2_with fail
  refine (clone_any _ _ O (HB.out.kept HF1.out.2.2 (fun _ _ h => h)) (by have := H2.out; omega)).mono ?_
  rintro e w2 ⟨v2, rfl, hf2⟩
  have HF2 := Lib.hid hf2; clear hf2
  have hm : Hid (Made w (w2.alloc (.cells #[v1, v2] 48)) w2.heap.size I O) := by
    have hk : Keeps (fun _ => False) w2 (w2.alloc (.cells #[v1, v2] 48)) := (Keeps.refl _ _).alloc _
    have s1 := HF1.out.2.2.size
    have s2 := HF2.out.2.2.size
    refine ⟨_, ⟨v1, v2, heap_new w2 _, (HF1.out.1.kept HF2.out.2.2 (fun _ _ h => h)).kept hk (fun _ _ h => h), HF2.out.1.kept hk (fun _ _ h => h), fun k x y => ?_, H1.out, H2.out, fun _ => Iff.rfl⟩, fun k hk => ?_, (HF1.out.2.2.trans HF2.out.2.2 (fun _ _ h => h)).trans hk (fun _ _ h => h)⟩
    · have := HF1.out.1.lt k x
      have := HF2.out.2.1 k y
      omega
    · rcases hk with rfl | hk | hk
      · omega
      · exact HF1.out.2.1 k hk
      · have := HF2.out.2.1 k hk; omega
  have e1 : ∃ A n c, v1 = .slice A n c := by
    obtain ⟨A, c, h, _⟩ := HF1.out.1.reads
    exact ⟨_, _, _, h⟩
  have e2 : ∃ A n c, v2 = .slice A n c := by
    obtain ⟨A, c, h, _⟩ := HF2.out.1.reads
    exact ⟨_, _, _, h⟩
  obtain ⟨A1, n1, c1, rfl⟩ := e1
  obtain ⟨A2, n2, c2, rfl⟩ := e2
  go_wp2
  go_ret2
  exact ⟨_, rfl, hm.out⟩

/-- An operation: its kind and its number. -/
structure Op2 where
  kind : Int
  n : Int
def opV (o : Op2) : Value := .agg #[.int .i64 o.kind, .int .i64 o.n]

/-- What an operation answers, and what it leaves. -/
def resN (I O : List Int) (o : Op2) : Int := if o.kind = 1 then firstN I else if o.kind = 2 then 0 else if o.kind = 3 then 0 else lastN O
def resE (I O : List Int) (o : Op2) : Int := if o.kind = 1 then emptyE I else if o.kind = 2 then fullE I else if o.kind = 3 then fullE O else emptyE O
def nextI (I : List Int) (o : Op2) : List Int := if o.kind = 1 then I.tail else if o.kind = 2 then pushF I o.n else I
def nextO (O : List Int) (o : Op2) : List Int := if o.kind = 1 then O else if o.kind = 2 then O else if o.kind = 3 then pushB O o.n else O.dropLast

theorem TapeAt.alloc {w : World} {p : Nat} {F : Nat → Prop} {I O : List Int} (h : TapeAt w p F I O) (o : Obj) : TapeAt (w.alloc o) p F I O := h.kept (S := fun _ => False) ((Keeps.refl _ _).alloc o) (fun _ _ h => h)
theorem Moved.of_alloc {w w' : World} {p : Nat} {F : Nat → Prop} {I O : List Int} {o : Obj} (h : Moved (w.alloc o) w' p F I O) : Moved w w' p F I O := by
  obtain ⟨F', h1, h2, h3⟩ := h
  exact ⟨F', h1, fun k hk => (h2 k hk).imp id (fun h => by simp at h; omega), ((Keeps.refl F w).alloc o).trans h3 (fun _ _ h => h)⟩

set_option maxHeartbeats 1000000 in
theorem do_any (w : World) (p : Nat) (F : Nat → Prop) (I O : List Int) (h : TapeAt w p F I O) (o : Op2) :
    Calls Try.prog 16 #[.pointer (some ⟨p, 0, none⟩), opV o] w fun e w' => e = .returned (.tuple #[.int .i64 (resN I O o), .int .i64 (resE I O o)]) ∧ Moved w w' p F (nextI I o) (nextO O o) := by
  obtain ⟨q, n⟩ := o
  have HT := Lib.hid h; clear h
  unfold opV
  by_cases h1 : q = 1
  · subst h1
    show Calls Try.prog 16 #[.pointer (some ⟨p, 0, none⟩), .agg #[.int .i64 1, .int .i64 n]] w fun e w' => e = .returned (.tuple #[.int .i64 (firstN I), .int .i64 (emptyE I)]) ∧ Moved w w' p F I.tail O
    go_enter Try.func16, Try.ntmps16
    go_wp2_with fail
    refine (read_any _ p F I O (by exact HT.out.alloc _)).mono ?_
    rintro e w1 ⟨rfl, hm⟩
    have HM := Lib.hid (Moved.of_alloc hm); clear hm
    go_wp2
    go_ret2
    exact ⟨rfl, HM.out⟩
  by_cases h2 : q = 2
  · subst h2
    show Calls Try.prog 16 #[.pointer (some ⟨p, 0, none⟩), .agg #[.int .i64 2, .int .i64 n]] w fun e w' => e = .returned (.tuple #[.int .i64 0, .int .i64 (fullE I)]) ∧ Moved w w' p F (pushF I n) O
    clear h1
    go_enter Try.func16, Try.ntmps16
    go_wp2_with fail
    refine (unread_any _ p F I O n (by exact HT.out.alloc _)).mono ?_
    rintro e w1 ⟨rfl, hm⟩
    have HM := Lib.hid (Moved.of_alloc hm); clear hm
    go_wp2
    go_ret2
    exact ⟨rfl, HM.out⟩
  by_cases h3 : q = 3
  · subst h3
    show Calls Try.prog 16 #[.pointer (some ⟨p, 0, none⟩), .agg #[.int .i64 3, .int .i64 n]] w fun e w' => e = .returned (.tuple #[.int .i64 0, .int .i64 (fullE O)]) ∧ Moved w w' p F I (pushB O n)
    clear h1 h2
    go_enter Try.func16, Try.ntmps16
    go_wp2_with fail
    refine (write_any _ p F I O n (by exact HT.out.alloc _)).mono ?_
    rintro e w1 ⟨rfl, hm⟩
    have HM := Lib.hid (Moved.of_alloc hm); clear hm
    go_wp2
    go_ret2
    exact ⟨rfl, HM.out⟩
  · have g : Hid (resN I O ⟨q, n⟩ = lastN O ∧ resE I O ⟨q, n⟩ = emptyE O ∧ nextI I ⟨q, n⟩ = I ∧ nextO O ⟨q, n⟩ = O.dropLast) := by
      refine ⟨?_, ?_, ?_, ?_⟩
      · simp only [resN, if_neg h1, if_neg h2, if_neg h3]
      · simp only [resE, if_neg h1, if_neg h2, if_neg h3]
      · simp only [nextI, if_neg h1, if_neg h2]
      · simp only [nextO, if_neg h1, if_neg h2, if_neg h3]
    rw [g.out.1, g.out.2.1, g.out.2.2.1, g.out.2.2.2]
    have d1 : (q == 1) = false := by rw [beq_eq_false_iff_ne]; exact h1
    have d2 : (q == 2) = false := by rw [beq_eq_false_iff_ne]; exact h2
    have d3 : (q == 3) = false := by rw [beq_eq_false_iff_ne]; exact h3
    clear h1 h2 h3
    go_enter Try.func16, Try.ntmps16
    go_wp2_with fail
    refine (unwrite_any _ p F I O (by exact HT.out.alloc _)).mono ?_
    rintro e w1 ⟨rfl, hm⟩
    have HM := Lib.hid (Moved.of_alloc hm); clear hm
    go_wp2
    go_ret2
    exact ⟨rfl, HM.out⟩

theorem great_any (w : World) (A B C : Option Addr) (n m k c d f : Nat) :
    Calls Try.prog 12 #[.slice A n c, .slice B m d, .slice C k f] w fun e w' => e = .returned (.bool (decide ((5000 : Int) < (n : Int)) || decide ((5000 : Int) < (m : Int)) || decide ((60 : Int) < (k : Int)))) ∧ w = w' := by
  cases h1 : decide ((5000 : Int) < (n : Int)) <;> cases h2 : decide ((5000 : Int) < (m : Int))
  all_goals
    go_enter Try.func12, Try.ntmps12
    go_wp2
    go_ret
    exact ⟨by simp, rfl⟩

def invOp (o : Op2) (n : Int) : Op2 := if o.kind = 1 then ⟨2, n⟩ else if o.kind = 2 then ⟨1, 0⟩ else if o.kind = 3 then ⟨4, 0⟩ else ⟨3, n⟩

theorem inverse_any (w : World) (o : Op2) (n : Int) :
    Calls Try.prog 18 #[opV o, .int .i64 n] w fun e w' => e = .returned (opV (invOp o n)) ∧ Keeps (fun _ => False) w w' := by
  obtain ⟨q, m⟩ := o
  unfold opV
  by_cases h1 : q = 1
  · subst h1
    show Calls Try.prog 18 #[.agg #[.int .i64 1, .int .i64 m], .int .i64 n] w fun e w' => e = .returned (.agg #[.int .i64 2, .int .i64 n]) ∧ Keeps (fun _ => False) w w'
    go_enter Try.func18, Try.ntmps18
    go_wp2
    exact bodyPost_ret (v := .agg #[.int .i64 2, .int .i64 n]) (by simp [results, Try.results18, go_sem]) rfl ⟨rfl, ((Keeps.refl _ w).alloc _).alloc _⟩
  by_cases h2 : q = 2
  · subst h2
    clear h1
    show Calls Try.prog 18 #[.agg #[.int .i64 2, .int .i64 m], .int .i64 n] w fun e w' => e = .returned (.agg #[.int .i64 1, .int .i64 0]) ∧ Keeps (fun _ => False) w w'
    go_enter Try.func18, Try.ntmps18
    go_wp2
    exact bodyPost_ret (v := .agg #[.int .i64 1, .int .i64 0]) (by simp [results, Try.results18, go_sem]) rfl ⟨rfl, ((Keeps.refl _ w).alloc _).alloc _⟩
  by_cases h3 : q = 3
  · subst h3
    clear h1 h2
    show Calls Try.prog 18 #[.agg #[.int .i64 3, .int .i64 m], .int .i64 n] w fun e w' => e = .returned (.agg #[.int .i64 4, .int .i64 0]) ∧ Keeps (fun _ => False) w w'
    go_enter Try.func18, Try.ntmps18
    go_wp2
    exact bodyPost_ret (v := .agg #[.int .i64 4, .int .i64 0]) (by simp [results, Try.results18, go_sem]) rfl ⟨rfl, ((Keeps.refl _ w).alloc _).alloc _⟩
  · have g : invOp ⟨q, m⟩ n = ⟨3, n⟩ := by simp only [invOp, if_neg h1, if_neg h2, if_neg h3]
    rw [g]
    have d1 : (q == 1) = false := by rw [beq_eq_false_iff_ne]; exact h1
    have d2 : (q == 2) = false := by rw [beq_eq_false_iff_ne]; exact h2
    have d3 : (q == 3) = false := by rw [beq_eq_false_iff_ne]; exact h3
    clear h1 h2 h3 g
    show Calls Try.prog 18 #[.agg #[.int .i64 q, .int .i64 m], .int .i64 n] w fun e w' => e = .returned (.agg #[.int .i64 3, .int .i64 n]) ∧ Keeps (fun _ => False) w w'
    go_enter Try.func18, Try.ntmps18
    go_wp2
    exact bodyPost_ret (v := .agg #[.int .i64 3, .int .i64 n]) (by simp [results, Try.results18, go_sem]) rfl ⟨rfl, ((Keeps.refl _ w).alloc _).alloc _⟩

end Go.Proofs.Ytadmmpfjdnfefaa
