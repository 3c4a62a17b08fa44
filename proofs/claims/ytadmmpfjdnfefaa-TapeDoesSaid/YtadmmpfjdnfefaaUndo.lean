/-
  The law TapeUndoes, walked.
-/
import Derived.Test.YtadmmpfjdnfefaaCopies
import Derived.Test.YtadmmpfjdnfefaaArgs
namespace Go.Proofs.Ytadmmpfjdnfefaa
open Go.RowKit

/-- Plain: a list of operations, newest first, each of which succeeds and leads back to I0, O0. -/
def Undo (I0 O0 : List Int) : List Op2 → List Int → List Int → Prop
  | [], I, O => I = I0 ∧ O = O0
  | o :: r, I, O => resE I O o = 0 ∧ Undo I0 O0 r (nextI I o) (nextO O o)
theorem Undo.push {I0 O0 I O : List Int} {r : List Op2} {o : Op2} (h : Undo I0 O0 r I O) (hI : I.length ≤ 4096) (hO : O.length ≤ 4096) (hE : resE I O o = 0) :
    Undo I0 O0 (invOp o (resN I O o) :: r) (nextI I o) (nextO O o) := by
  obtain ⟨u1, _, u3, u4⟩ := op_undone hI hO hE
  exact ⟨u1, by rw [u3, u4]; exact h⟩

/-- Blocks of operations stay as they were. -/
def Others (w w' : World) : Prop := ∀ (k : Nat) (cur : Array Value), w.heap[k]? = some (.cells cur 37 (0, 0)) → w'.heap[k]? = some (.cells cur 37 (0, 0))
theorem Others.trans {a b c : World} (h : Others a b) (k : Others b c) : Others a c := fun i cur hi => k i cur (h i cur hi)
theorem Others.of_new {w w' : World} (h : Keeps (fun _ => False) w w') : Others w w' := fun k _ hk => (h.block k (lt_of_block' hk) (fun h => h)).trans hk
theorem TapeAt.foot {w : World} {p : Nat} {F : Nat → Prop} {I O : List Int} (h : TapeAt w p F I O) (k : Nat) (hk : F k) : ∃ cur e, w.heap[k]? = some (.cells cur e (0, 0)) ∧ (e = 3 ∨ e = 48) := by
  obtain ⟨vi, vo, hp, hi, ho, _, _, _, hF⟩ := h
  have row : ∀ (v : Value) (zs : List Int), Row w v zs → v.ownBlock = some k → ∃ cur e, w.heap[k]? = some (.cells cur e (0, 0)) ∧ (e = 3 ∨ e = 48) := fun v zs hr hv => by
    rcases hr with ⟨rfl, _⟩ | ⟨g, c, cur, rfl, hh, _⟩
    · simp [Value.ownBlock] at hv
    · have : g = k := by simpa [Value.ownBlock] using hv
      subst this
      exact ⟨cur, 3, hh, .inl rfl⟩
  rcases (hF k).1 hk with rfl | h | h
  · exact ⟨_, 48, hp, .inr rfl⟩
  · exact row vi I hi h
  · exact row vo O ho h
theorem Others.of_keeps {w w' : World} {p : Nat} {F : Nat → Prop} {I O : List Int} (h : TapeAt w p F I O) (hk : Keeps F w w') : Others w w' := fun k cur hc => by
  refine (hk.block k (lt_of_block' hc) (fun hF => ?_)).trans hc
  obtain ⟨cur', e, hh, he⟩ := h.foot k hF
  rw [hc] at hh
  injection hh with hh
  injection hh with _ h2 _
  subst h2
  rcases he with he | he <;> exact absurd he (by decide)

theorem do_live' (w0 w : World) (p : Nat) (I O : List Int) (o : Op2) (h : Live w0 w p I O) :
    Calls Try.prog 16 #[.pointer (some ⟨p, 0, none⟩), opV o] w fun e w' => e = .returned (.tuple #[.int .i64 (resN I O o), .int .i64 (resE I O o)]) ∧ Live w0 w' p (nextI I o) (nextO O o) ∧ Others w w' := by
  obtain ⟨F, h1, h2, h3⟩ := h
  refine (do_any w p F I O h1 o).mono fun e w' ⟨he, hm⟩ => ⟨he, Live.step h2 h3 hm, ?_⟩
  obtain ⟨_, _, _, hk⟩ := hm
  exact Others.of_keeps h1 hk

/-- A slice of operations that the call owns. -/
def opCells (l : List Op2) : List Value := l.flatMap fun o => [.int .i64 o.kind, .int .i64 o.n]
theorem opCells_append (l m : List Op2) : opCells (l ++ m) = opCells l ++ opCells m := by simp [opCells]
theorem opCells_length (l : List Op2) : (opCells l).length = l.length * 2 := by
  induction l with
  | nil => rfl
  | cons o l ih => simp only [opCells, List.flatMap_cons, List.length_append, List.length_cons] at ih ⊢; simp only [List.length_nil]; omega
theorem opCells_get {l : List Op2} {j : Nat} {o : Op2} (h : l[j]? = some o) : (opCells l)[2 * j]? = some (.int .i64 o.kind) ∧ (opCells l)[2 * j + 1]? = some (.int .i64 o.n) := by
  induction l generalizing j with
  | nil => simp at h
  | cons a l ih =>
    cases j with
    | zero =>
      obtain rfl : a = o := by simpa using h
      exact ⟨rfl, rfl⟩
    | succ j =>
      obtain ⟨h1, h2⟩ := ih (j := j) (by simpa using h)
      have e : opCells (a :: l) = .int .i64 a.kind :: .int .i64 a.n :: opCells l := rfl
      rw [e, show 2 * (j + 1) = 2 * j + 1 + 1 by omega]
      exact ⟨h1, h2⟩
def ORow (w : World) (B : Nat) (v : Value) (l : List Op2) : Prop := w.ownsRow B 37 2 v l.length (opCells l)
theorem ORow.others {w w' : World} {B : Nat} {v : Value} {l : List Op2} (h : ORow w B v l) (ho : Others w w') : ORow w' B v l := by
  obtain ⟨hl, h⟩ := h
  refine ⟨hl, ?_⟩
  rcases h with h | ⟨g, c, cur, e, hb, hh, hr⟩
  · exact .inl h
  · exact .inr ⟨g, c, cur, e, hb, ho g cur hh, hr⟩
theorem Live.kept_row {w0 w w' : World} {B p : Nat} {I O : List Int} {v : Value} {l : List Op2} (h : Live w0 w p I O) (hr : ORow w B v l) (hB : w0.heap.size ≤ B) (hk : w.grownBy w' v.ownBlock) : Live w0 w' p I O := by
  obtain ⟨F, h1, h2, h3⟩ := h
  have hk' : Keeps (fun k => v.ownBlock = some k) w w' := ⟨hk.os, hk.tape, hk.output, hk.size, fun i hi hn => hk.block i hi (fun e => hn e.symm)⟩
  refine ⟨F, h1.kept hk' (fun k hF hv => ?_), h2, h3.trans hk' (fun i hi hv => ?_)⟩
  · obtain ⟨cur', e, hh, he⟩ := h1.foot k hF
    rcases hr.2 with ⟨hv2, _⟩ | ⟨g, c, cur, hv2, _, hg, _⟩
    · rw [hv2] at hv; simp [Value.ownBlock] at hv
    · rw [hv2] at hv
      have : g = k := by simpa [Value.ownBlock] using hv
      subst this
      rw [hg] at hh
      injection hh with hh
      injection hh with _ h2 _
      subst h2
      rcases he with he | he <;> exact absurd he (by decide)
  · have := (World.ownsRow.lt hr i hv).1
    omega
theorem Try.info37 : (Try.prog.info? 37).map (fun i => (i.zero, i.size, i.bytes)) = some (some (.agg #[.int .i64 0, .int .i64 0]), 2, 16) := by kernel_rfl

theorem ReadsOps.form {w : World} {v : Value} {l : List Op2} (h : ReadsOps w v l) : ∃ A x, v = .slice A l.length x := by
  obtain ⟨A, c, h, _⟩ := h
  exact ⟨A, c, h⟩
theorem ReadsOps.at_ {w : World} {A : Option Addr} {c : Nat} {l : List Op2} (h : ReadsOps w (.slice A l.length c) l) {j : Nat} {o : Op2} (hj : l[j]? = some o) :
    ∃ b off, A = some ⟨b, off, none⟩ ∧ b < w.heap.size ∧ w.cell? ⟨b, off + j * 2, none⟩ = some (.int .i64 o.kind) ∧ w.cell? ⟨b, off + j * 2 + 1, none⟩ = some (.int .i64 o.n) := by
  obtain ⟨A', c', e, h1, h2, h3, hr⟩ := h
  injection e with e1 e2 e3
  subst e1 e3
  have hjl := (List.getElem?_eq_some_iff.1 hj).1
  match A, h3, hr with
  | none, h3, _ => have := h3 rfl; omega
  | some ⟨b, off, spot⟩, _, hr =>
    obtain ⟨h0, h1⟩ := hr _ rfl j o hj
    have hz : 0 < l.length := by omega
    obtain ⟨z0, _⟩ := hr _ rfl 0 l[0] (List.getElem?_eq_getElem hz)
    have hs : spot = none := by simpa [Addr.add] using World.cell?_spot z0
    subst hs
    have e : ∀ i, (⟨b, off, none⟩ : Addr).add i = ⟨b, off + i, none⟩ := fun i => by unfold Addr.add; split <;> simp_all
    rw [e] at h0 h1
    refine ⟨b, off, rfl, World.block_lt_of_cell? w _ h0, ?_, ?_⟩
    · rw [Nat.mul_comm]; exact h0
    · rw [Nat.mul_comm, Nat.add_assoc]; exact h1

set_option maxHeartbeats 2000000 in
theorem undoes_walk (w : World) (a b c : Value) (I O : List Int) (l : List Op2) (ha : Reads w a I) (hb : Reads w b O) (hc : ReadsOps w c l) :
    Calls Try.prog 5 #[a, b, c] w fun e w' => e = .returned (.bool true) ∧ KB w w' := by
  have HA := Lib.hid ha
  have HB := Lib.hid hb
  have HC := Lib.hid hc
  obtain ⟨A, ca, rfl⟩ := ha.form
  obtain ⟨B, cb, rfl⟩ := hb.form
  obtain ⟨C, cc, rfl⟩ := hc.form
  clear ha hb hc
  go_enter Try.func5, Try.ntmps5
  go_wp2_with fail
  refine (awake_any _).mono ?_
  rintro e w1 ⟨rfl, hk1⟩
  have K1 := Lib.hid ((KB.refl w).fresh hk1); clear hk1
  go_wp2_with fail
  refine (great_int _ _ _ _ I.length O.length l.length HA.out.form HB.out.form HC.out.form).mono ?_
  rintro e wx ⟨rfl, rfl⟩
  cases hbig : bigB I.length O.length l.length with
  | true =>
    go_wp2
    go_ret
    exact ⟨rfl, K1.out⟩
  | false =>
    have HL : Hid (l.length ≤ 60) := by
      unfold bigB at hbig
      rw [Bool.or_eq_false_iff, Bool.or_eq_false_iff, decide_eq_false_iff_not, decide_eq_false_iff_not, decide_eq_false_iff_not] at hbig
      show _ ≤ _
      omega
    clear hbig
    go_wp2_with fail
    by_cases hfull : 4096 < I.length ∨ 4096 < O.length
    · refine (new_fails _ _ _ I O (K1.out.reads HA.out) (K1.out.reads HB.out) hfull).mono ?_
      rintro e wx ⟨rfl, rfl⟩
      clear hfull
      go_wp2
      go_ret
      exact ⟨rfl, K1.out⟩
    · refine (new_ok _ _ _ I O (K1.out.reads HA.out) (K1.out.reads HB.out) (by omega) (by omega)).mono ?_
      rintro e w2 ⟨p, rfl, hm⟩
      clear hfull
      have hl := Lib.hid (Live.of_made hm (Keeps.refl _ w1)); clear hm
      have hll : (l.length : Int) ≤ 60 := by have := HL.out; omega
      obtain ⟨i0, hi, hz0, hz1, hz2⟩ := info_parts Try.info37
      have hz2' := Lib.hid hz2; clear hz2
      go_wp2
      go_loopw [9, 33] (fun v s wr => ∃ j : Nat, j ≤ l.length ∧ s = .int .i64 j ∧ ∃ I' O' U, Hid (U.length ≤ j) ∧ Hid (Undo I O U.reverse I' O') ∧ Hid (Live w1 wr p I' O') ∧ Hid (ORow wr w1.heap.size v U)) (fun _ s _ => l.length - (intOf s).toNat)
      case atStart => exact ⟨0, Nat.zero_le _, rfl, I, O, [], Nat.le_refl _, ⟨rfl, rfl⟩, hl.out, World.ownsRow_nil _ _ _ _⟩
      case round =>
        obtain ⟨j, hj, rfl, I', O', U, hUl, hU, hlive, hrow⟩ := hrel
        by_cases hlt : j < l.length
        · have hjk : (j : Int) < (l.length : Int) := by omega
          obtain ⟨o, ho⟩ : ∃ o, l[j]? = some o := ⟨_, List.getElem?_eq_getElem hlt⟩
          obtain ⟨bb, off, rfl, hbb, c0, c1⟩ := HC.out.at_ ho
          have c0' : wr.cell? ⟨bb, off + j * 2, none⟩ = some (.int .i64 o.kind) := hlive.out.keeps.cell' ((K1.out.cell c0 (by simpa using hbb)))
          have c1' : wr.cell? ⟨bb, off + j * 2 + 1, none⟩ = some (.int .i64 o.n) := hlive.out.keeps.cell' ((K1.out.cell c1 (by simpa using hbb)))
          clear c0 c1
          obtain ⟨q, n⟩ := o
          have HO := Lib.hid ho; clear ho
          have ka : Hid (Keeps (fun _ => False) wr (wr.alloc (.cells #[.int .i64 q, .int .i64 n] 37))) := (Keeps.refl _ _).alloc _
          have LA := Lib.hid (hlive.out.kept ka.out)
          have RA := Lib.hid (hrow.out.others (Others.of_new ka.out))
          have hO := Lib.hid (heap_new wr (.cells #[.int .i64 q, .int .i64 n] 37))
          go_wp2_with fail
          refine (do_live' w1 _ p I' O' ⟨q, n⟩ LA.out).mono ?_
          rintro e w3 ⟨rfl, h3, o3⟩
          have R3 := Lib.hid (RA.out.others o3)
          have hO3 := Lib.hid (o3 _ _ hO.out); clear o3
          clear RA LA hO ka hrow
          have L3 := Lib.hid h3; clear h3
          have d0 : w3.cell? ⟨wr.heap.size, 0, none⟩ = some (.int .i64 q) := by rw [cell_of_block hO3.out]; rfl
          have d1 : w3.cell? ⟨wr.heap.size, 1, none⟩ = some (.int .i64 n) := by rw [cell_of_block hO3.out]; rfl
          by_cases hE : resE I' O' ⟨q, n⟩ = 0
          · have hU2 := Lib.hid (hU.out.push hlive.out.le.1 hlive.out.le.2 hE)
            rw [hE]
            obtain ⟨N, hN⟩ : ∃ N, N = resN I' O' ⟨q, n⟩ := ⟨_, rfl⟩
            rw [← hN] at hU2
            rw [← hN]
            clear hN hE hlive hU
            go_wp2_with fail
            refine (inverse_any _ ⟨q, n⟩ N).mono ?_
            rintro e w4 ⟨rfl, hk4⟩
            have L4 := Lib.hid (L3.out.kept hk4)
            have R4 := Lib.hid (R3.out.others (Others.of_new hk4))
            clear hk4 L3 R3 d0 d1 hO3
            obtain ⟨o', ho'⟩ : ∃ o', o' = invOp ⟨q, n⟩ N := ⟨_, rfl⟩
            rw [← ho'] at hU2
            rw [← ho']
            clear ho'
            obtain ⟨q', n'⟩ := o'
            unfold opV
            dsimp only
            have ka : Hid (Keeps (fun _ => False) w4 (w4.alloc (.cells #[.int .i64 q', .int .i64 n'] 37))) := (Keeps.refl _ _).alloc _
            have R5 := Lib.hid (R4.out.others (Others.of_new ka.out))
            have L5 := Lib.hid (L4.out.kept ka.out)
            have s5 : Hid (w1.heap.size ≤ (w4.alloc (.cells #[.int .i64 q', .int .i64 n'] 37)).heap.size) := L5.out.keeps.size
            have hul : Hid (U.length ≤ 60) := by have := hUl.out; have := HL.out; show _ ≤ _; omega
            go_wp2_with (at_builtin; refine wpList_append_own _ rfl (.tmp 45) (.tmp 49) 32 rfl w1.heap.size 37 i0 (.agg #[.int .i64 0, .int .i64 0]) 2 16 Try.underlying32 hi hz0 hz1 hz2'.out rfl (by decide) _ U.length (opCells U) rfl R5.out ⟨w4.heap.size, 0, none⟩ 1 1 [.int .i64 q', .int .i64 n'] rfl rfl ?c1 ?c2 ?c3 ?c4 s5.out ?_)
            case c1 =>
              intro i u hu
              match i, hu with
              | 0, hu => simp at hu; subst hu; exact cell_of_block (heap_new w4 _)
              | 1, hu => simp at hu; subst hu; exact cell_of_block (heap_new w4 _)
            case c2 => intro u hu; simp at hu; rcases hu with rfl | rfl <;> rfl
            case c3 => unfold maxLen; have := hul.out; omega
            case c4 => have := hul.out; omega
            intro v' w5 hown hg _
            have R6 : Hid (ORow w5 w1.heap.size v' (U ++ [⟨q', n'⟩])) := by
              show _ ∧ _
              have e : (U ++ [(⟨q', n'⟩ : Op2)]).length = U.length + 1 := by simp
              have e2 : opCells (U ++ [⟨q', n'⟩]) = opCells U ++ [.int .i64 q', .int .i64 n'] := by rw [opCells_append]; rfl
              rw [e, e2]
              exact hown
            have L6 := Lib.hid (L5.out.kept_row R5.out (Nat.le_refl _) hg)
            have q1 : Hid ((U ++ [(⟨q', n'⟩ : Op2)]).length ≤ j + 1) := by show _ ≤ _; have := hUl.out; simp; omega
            have q2 : Hid (Undo I O (U ++ [(⟨q', n'⟩ : Op2)]).reverse (nextI I' ⟨q, n⟩) (nextO O' ⟨q, n⟩)) := by show Undo _ _ _ _ _; rw [List.reverse_append]; exact hU2.out
            clear hown hg R5 L5 L4 R4 ka s5
            go_wp2
            go_roundw
            case rel => exact ⟨j + 1, by omega, by go_num, _, _, _, q1, q2, L6, R6⟩
            case measure => simp [intOf]; omega
          · have hb : (resE I' O' ⟨q, n⟩ == 0) = false := by rw [beq_eq_false_iff_ne]; exact hE
            obtain ⟨f1, f2, f3⟩ := op_fails hE
            rw [f2, f3] at L3
            clear f1 f2 f3 hE hlive
            have q1 : Hid (U.length ≤ j + 1) := by show _ ≤ _; have := hUl.out; omega
            go_wp2
            go_roundw
            case rel => exact ⟨j + 1, by omega, by go_num, _, _, _, q1, hU, L3, R3⟩
            case measure => simp [intOf]; omega
        · have hjk : ¬ (j : Int) < (l.length : Int) := by omega
          have hul : Hid (U.length ≤ 60) := by have := hUl.out; have := HL.out; show _ ≤ _; omega
          clear hlt hj hUl
          obtain ⟨w3, rfl⟩ : ∃ w3 : World, w3 = wr := ⟨_, rfl⟩
          obtain ⟨Av, cv, rfl⟩ : ∃ Av cv, u9 = .slice Av U.length cv := by
            rcases hrow.out.2 with ⟨h, h0⟩ | ⟨g, cp, cur, h, _⟩
            · exact ⟨none, 0, by rw [h, h0]⟩
            · exact ⟨_, _, h⟩
          have hu60 : (U.length : Int) ≤ 60 := by have := hul.out; omega
          go_wp2
          go_loopw [14] (fun s wr => ∃ i : Nat, i ≤ U.length ∧ s = .int .i64 ((i : Int) - 1) ∧ ∃ I' O', Hid (Undo I O (U.take i).reverse I' O') ∧ Hid (Live w1 wr p I' O') ∧ Hid (ORow wr w1.heap.size (.slice Av U.length cv) U)) (fun s _ => (intOf s + 1).toNat)
          case atStart => exact ⟨U.length, Nat.le_refl _, rfl, I', O', (show Undo _ _ _ _ _ by rw [List.take_length]; exact hU.out), hlive.out, hrow.out⟩
          case round =>
            obtain ⟨i, hi2, rfl, I2, O2, hU3, hlive3, hrow3⟩ := hrel
            by_cases hpos : 0 < i
            · obtain ⟨m, rfl⟩ : ∃ m, i = m + 1 := ⟨i - 1, by omega⟩
              rw [show ((m + 1 : Nat) : Int) - 1 = (m : Int) by omega]
              have hmU : m < U.length := by omega
              have hmI : (m : Int) < (U.length : Int) := by omega
              obtain ⟨o, ho⟩ : ∃ o, U[m]? = some o := ⟨_, List.getElem?_eq_getElem hmU⟩
              have hst : Hid (Undo I O (o :: (U.take m).reverse) I2 O2) := by
                show Undo _ _ _ _ _
                have : U.take (m + 1) = U.take m ++ [o] := by rw [List.take_succ_eq_append_getElem hmU]; rw [List.getElem?_eq_getElem hmU] at ho; injection ho with ho; rw [ho]
                have h := hU3.out
                rw [this, List.reverse_append] at h
                exact h
              obtain ⟨g, hg⟩ : ∃ g, Av = some ⟨g, 0, none⟩ := by
                rcases hrow3.out.2 with ⟨h, h0⟩ | ⟨g, cp, cur, h, _⟩
                · omega
                · injection h with h _ _; exact ⟨g, h⟩
              subst hg
              have hget := opCells_get ho
              obtain ⟨q, n⟩ := o
              have d0 : wr.cell? ⟨g, m * 2, none⟩ = some (.int .i64 q) := by rw [World.ownsRow.cellAt hrow3.out _ (by omega), Nat.mul_comm]; exact hget.1
              have d1 : wr.cell? ⟨g, m * 2 + 1, none⟩ = some (.int .i64 n) := by rw [World.ownsRow.cellAt hrow3.out _ (by omega), Nat.mul_comm]; exact hget.2
              clear hget ho hU3
              go_wp2_with fail
              refine (do_live' w1 _ p I2 O2 ⟨q, n⟩ hlive3.out).mono ?_
              rintro e w6 ⟨rfl, h6, o6⟩
              rw [hst.out.1]
              have R6 := Lib.hid (hrow3.out.others o6)
              have L6 := Lib.hid h6; clear h6 o6 d0 d1
              have U6 := Lib.hid hst.out.2
              go_wp2
              go_roundw
              case rel => exact ⟨m, by omega, by go_num, _, _, U6, L6, R6⟩
              case measure => simp [intOf]
            · obtain rfl : i = 0 := by omega
              obtain ⟨rfl, rfl⟩ := hU3.out
              clear hpos hU3
              go_wp2_with fail
              refine (same_live w1 _ p I2 O2 _ _ I2 O2 hlive3.out (K1.out.reads HA.out) (K1.out.reads HB.out)).mono ?_
              rintro e w9 ⟨rfl, hk9⟩
              rw [sameB_self]
              have K9 := Lib.hid (K1.out.fresh hk9); clear hk9
              go_wp2
              go_ret
              exact ⟨rfl, K9.out⟩

end Go.Proofs.Ytadmmpfjdnfefaa
