/-
  The law TapePairs, walked.
-/
import Derived.Test.YtadmmpfjdnfefaaAwake
import Derived.Test.YtadmmpfjdnfefaaPlain
namespace Go.Proofs.Ytadmmpfjdnfefaa
open Go.RowKit

def bigB (n m k : Nat) : Bool := decide ((5000 : Int) < (n : Int)) || decide ((5000 : Int) < (m : Int)) || decide ((60 : Int) < (k : Int))

theorem great_int (w : World) (a b c : Value) (n m k : Nat) (ha : ∃ A x, a = .slice A n x) (hb : ∃ A x, b = .slice A m x) (hc : ∃ A x, c = .slice A k x) :
    Calls Try.prog 12 #[a, b, c] w fun e w' => e = .returned (.bool (bigB n m k)) ∧ w = w' := by
  obtain ⟨A, x, rfl⟩ := ha
  obtain ⟨B, y, rfl⟩ := hb
  obtain ⟨C, z, rfl⟩ := hc
  exact great_any w A B C n m k x y z
theorem Reads.form {w : World} {v : Value} {zs : List Int} (h : Reads w v zs) : ∃ A x, v = .slice A zs.length x := by
  obtain ⟨A, c, h, _⟩ := h
  exact ⟨A, c, h⟩

/-- New, whatever it is handed. -/
def newE (I O : List Int) : Int := if 4096 < I.length ∨ 4096 < O.length then 5 else 0
theorem new_fails (w : World) (a b : Value) (I O : List Int) (ha : Reads w a I) (hb : Reads w b O) (h : 4096 < I.length ∨ 4096 < O.length) :
    Calls Try.prog 13 #[a, b] w fun e w' => e = .returned (.tuple #[.pointer none, .int .i64 5]) ∧ w = w' := by
  obtain ⟨A, x, rfl⟩ := ha.form
  obtain ⟨B, y, rfl⟩ := hb.form
  by_cases h1 : 4096 < I.length
  · exact new_big1 w A B _ _ x y h1
  · exact new_big2 w A B _ _ x y (by omega) (by omega)

theorem same_live (w0 w : World) (p : Nat) (I O : List Int) (a b : Value) (xs ys : List Int) (h : Live w0 w p I O) (ha : Reads w0 a xs) (hb : Reads w0 b ys) :
    Calls Try.prog 15 #[.pointer (some ⟨p, 0, none⟩), a, b] w fun e w' => e = .returned (.bool (sameB I O xs ys)) ∧ Keeps (fun _ => False) w0 w' := by
  obtain ⟨F, h1, h2, h3⟩ := h
  refine (same_any w p F I O h1 a b xs ys (ha.kept h3 (fun _ _ h => h)) (hb.kept h3 (fun _ _ h => h))).mono fun e w' ⟨he, hk⟩ => ⟨he, h3.trans hk (fun _ _ h => h)⟩
theorem sameB_self (I O : List Int) : sameB I O I O = true := by unfold sameB eqB; simp
theorem Live.keeps {w0 w : World} {p : Nat} {I O : List Int} (h : Live w0 w p I O) : Keeps (fun _ => False) w0 w := by
  obtain ⟨_, _, _, hk⟩ := h
  exact hk
theorem Live.le {w0 w : World} {p : Nat} {I O : List Int} (h : Live w0 w p I O) : I.length ≤ 4096 ∧ O.length ≤ 4096 := by
  obtain ⟨_, ⟨_, _, _, _, _, _, h1, h2, _⟩, _⟩ := h
  exact ⟨h1, h2⟩
theorem Keeps.cell' {w0 w : World} (h : Keeps (fun _ => False) w0 w) {x : Addr} {v : Value} (hc : w0.cell? x = some v) : w.cell? x = some v := h.cell hc (fun h => h)

set_option maxHeartbeats 1000000 in
theorem pairs_walk (w : World) (a b : Value) (I O : List Int) (o : Op2) (ha : Reads w a I) (hb : Reads w b O) :
    Calls Try.prog 6 #[a, b, opV o] w fun e w' => e = .returned (.bool true) ∧ Keeps (fun _ => False) w w' := by
  have hk0 : Hid (Keeps (fun _ => False) w (w.alloc (.cells #[.int .i64 o.kind, .int .i64 o.n] 37))) := (Keeps.refl _ w).alloc _
  have h0 : (w.alloc (.cells #[.int .i64 o.kind, .int .i64 o.n] 37)).heap[w.heap.size]? = some (.cells #[.int .i64 o.kind, .int .i64 o.n] 37) := heap_new w _
  have HA := Lib.hid (ha.kept hk0.out (fun _ _ h => h)); clear ha
  have HB := Lib.hid (hb.kept hk0.out (fun _ _ h => h)); clear hb
  obtain ⟨q, n⟩ := o
  dsimp only at hk0 h0 HA HB
  obtain ⟨w0, hw0⟩ : ∃ w0, w0 = w.alloc (.cells #[.int .i64 q, .int .i64 n] 37) := ⟨_, rfl⟩
  rw [← hw0] at hk0 h0 HA HB
  have hc0 : w0.cell? ⟨w.heap.size, 0, none⟩ = some (.int .i64 q) := by rw [cell_of_block h0]; rfl
  have hc1 : w0.cell? ⟨w.heap.size, 1, none⟩ = some (.int .i64 n) := by rw [cell_of_block h0]; rfl
  clear h0
  have HC0 := Lib.hid hc0; clear hc0
  have HC1 := Lib.hid hc1; clear hc1
  unfold opV
  go_enter Try.func6, Try.ntmps6
  go_wp2_with fail
  have hw := Lib.hid hw0
  rw [← hw0]
  clear hw0
  refine (awake_any _).mono ?_
  rintro e w1 ⟨rfl, hk1⟩
  have K1 := Lib.hid hk1; clear hk1
  go_wp2_with fail
  refine (great_int _ _ _ _ I.length O.length 0 HA.out.form HB.out.form ⟨_, _, rfl⟩).mono ?_
  rintro e wx ⟨rfl, rfl⟩
  cases hbig : bigB I.length O.length 0 with
  | true =>
    go_wp2
    go_ret
    exact ⟨rfl, hk0.out.trans K1.out (fun _ _ h => h)⟩
  | false =>
    have HBIG := Lib.hid hbig; clear hbig
    go_wp2_with fail
    have HA1 := Lib.hid (HA.out.kept K1.out (fun _ _ h => h))
    have HB1 := Lib.hid (HB.out.kept K1.out (fun _ _ h => h))
    by_cases hfull : 4096 < I.length ∨ 4096 < O.length
    · refine (new_fails _ _ _ I O HA1.out HB1.out hfull).mono ?_
      rintro e wx ⟨rfl, rfl⟩
      clear hfull
      go_wp2
      go_ret
      exact ⟨rfl, hk0.out.trans K1.out (fun _ _ h => h)⟩
    · refine (new_ok _ _ _ I O HA1.out HB1.out (by omega) (by omega)).mono ?_
      rintro e w2 ⟨p, rfl, hm⟩
      have HLE := Lib.hid (show I.length ≤ 4096 ∧ O.length ≤ 4096 by omega)
      clear hfull
      have hl := Lib.hid (Live.of_made hm K1.out); clear hm
      have c0 : w2.cell? ⟨w.heap.size, 0, none⟩ = some (.int .i64 q) := hl.out.keeps.cell' HC0.out
      have c1 : w2.cell? ⟨w.heap.size, 1, none⟩ = some (.int .i64 n) := hl.out.keeps.cell' HC1.out
      go_wp2_with fail
      refine (do_live w0 _ p I O ⟨q, n⟩ hl.out).mono ?_
      rintro e w3 ⟨rfl, h3⟩
      have hl3 := Lib.hid h3; clear h3 c0 c1
      by_cases hE : resE I O ⟨q, n⟩ = 0
      · have hb : (resE I O ⟨q, n⟩ != 0) = false := by rw [hE]; rfl
        obtain ⟨u1, u2, u3, u4⟩ := op_undone (o := ⟨q, n⟩) HLE.out.1 HLE.out.2 hE
        obtain ⟨N, hN⟩ : ∃ N, N = resN I O ⟨q, n⟩ := ⟨_, rfl⟩
        obtain ⟨I', hI'⟩ : ∃ I', I' = nextI I ⟨q, n⟩ := ⟨_, rfl⟩
        obtain ⟨O', hO'⟩ : ∃ O', O' = nextO O ⟨q, n⟩ := ⟨_, rfl⟩
        rw [← hN, ← hI', ← hO'] at u1 u2
        rw [← hN, ← hI'] at u3
        rw [← hN, ← hO'] at u4
        rw [← hI', ← hO'] at hl3
        rw [← hN]
        clear hN hI' hO' hE
        have U1 := Lib.hid u1; clear u1
        have U2 := Lib.hid u2; clear u2
        have U3 := Lib.hid u3; clear u3
        have U4 := Lib.hid u4; clear u4
        have c0 : w3.cell? ⟨w.heap.size, 0, none⟩ = some (.int .i64 q) := hl3.out.keeps.cell' HC0.out
        have c1 : w3.cell? ⟨w.heap.size, 1, none⟩ = some (.int .i64 n) := hl3.out.keeps.cell' HC1.out
        go_wp2_with fail
        refine (inverse_any _ ⟨q, n⟩ N).mono ?_
        rintro e w4 ⟨rfl, hk4⟩
        have hl4 := Lib.hid (hl3.out.kept hk4); clear hk4 c0 c1
        go_wp2_with fail
        refine (do_live w0 _ p I' O' (invOp ⟨q, n⟩ N) hl4.out).mono ?_
        rintro e w5 ⟨rfl, h5⟩
        rw [U1.out, U2.out]
        rw [U3.out, U4.out] at h5
        have hl5 := Lib.hid h5; clear h5
        have c0 : w5.cell? ⟨w.heap.size, 0, none⟩ = some (.int .i64 q) := hl5.out.keeps.cell' HC0.out
        have c1 : w5.cell? ⟨w.heap.size, 1, none⟩ = some (.int .i64 n) := hl5.out.keeps.cell' HC1.out
        by_cases q2 : q = 2
        · subst q2
          rw [show movedN ⟨2, n⟩ = n from rfl]
          go_wp2_with fail
          refine (same_live w0 _ p I O _ _ I O hl5.out HA.out HB.out).mono ?_
          rintro e w6 ⟨rfl, hk6⟩
          rw [sameB_self]
          have K6 := Lib.hid hk6; clear hk6
          go_wp2
          go_ret
          exact ⟨rfl, hk0.out.trans K6.out (fun _ _ h => h)⟩
        by_cases q3 : q = 3
        · subst q3
          rw [show movedN ⟨3, n⟩ = n from rfl]
          clear q2
          go_wp2_with fail
          refine (same_live w0 _ p I O _ _ I O hl5.out HA.out HB.out).mono ?_
          rintro e w6 ⟨rfl, hk6⟩
          rw [sameB_self]
          have K6 := Lib.hid hk6; clear hk6
          go_wp2
          go_ret
          exact ⟨rfl, hk0.out.trans K6.out (fun _ _ h => h)⟩
        · rw [show movedN ⟨q, n⟩ = 0 by simp only [movedN, if_neg q2, if_neg q3]]
          have d2 : (q == 2) = false := by rw [beq_eq_false_iff_ne]; exact q2
          have d3 : (q == 3) = false := by rw [beq_eq_false_iff_ne]; exact q3
          have e2 : (q != 2) = true := by rw [bne_iff_ne]; exact q2
          have e3 : (q != 3) = true := by rw [bne_iff_ne]; exact q3
          clear q2 q3
          go_wp2_with fail
          refine (same_live w0 _ p I O _ _ I O hl5.out HA.out HB.out).mono ?_
          rintro e w6 ⟨rfl, hk6⟩
          rw [sameB_self]
          have K6 := Lib.hid hk6; clear hk6
          go_wp2
          go_ret
          exact ⟨rfl, hk0.out.trans K6.out (fun _ _ h => h)⟩
      · have hb : (resE I O ⟨q, n⟩ != 0) = true := by rw [bne_iff_ne]; exact hE
        obtain ⟨f1, f2, f3⟩ := op_fails hE
        rw [f1]
        rw [f2, f3] at hl3
        clear f1 f2 f3 hE
        go_wp2_with fail
        refine (same_live w0 _ p I O _ _ I O hl3.out HA.out HB.out).mono ?_
        rintro e w4 ⟨rfl, hk4⟩
        rw [sameB_self]
        have K4 := Lib.hid hk4; clear hk4
        go_wp2
        go_ret
        exact ⟨rfl, hk0.out.trans K4.out (fun _ _ h => h)⟩

end Go.Proofs.Ytadmmpfjdnfefaa
