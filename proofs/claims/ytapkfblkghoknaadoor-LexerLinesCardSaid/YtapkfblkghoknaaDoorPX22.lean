/-
  The contract of Join: the texts, one behind the other.
-/
import Derived.Test.YtapkfblkghoknaaDoorPX0
import Derived.Test.YtapkfblkghoknaaDoorBld
namespace Go.Proofs.YtapkfblkghoknaaDoor.PX
open Go.RowKit Go.Proofs.YtapkfblkghoknaaDoorW.PrintWords Go.Proofs.YtapkfblkghoknaaDoorW.PrintLast Go.Proofs.YtapkfblkghoknaaDoorW.PrintMore

def joinB (l : List S33) : List UInt8 := l.flatMap fun t => t.f1.data.toList
theorem bld_below {B b : Nat} {bs : List Value} {w w1 : World} (h : Lib.IsBuilder 52 5 B b bs w) (hb : Below w.heap.size w w1) : Lib.IsBuilder 52 5 B b bs w1 := by
  have one : ∀ p, Lib.BuilderAt 52 5 B b p bs w → Lib.BuilderAt 52 5 B b p bs w1 := by
    rintro p ⟨h1, v, h2, h3, h4⟩
    exact ⟨h1, v, (hb.block b (blk_lt h2)).trans h2, pw_own_below h3 hb, h4⟩
  rcases h with h | h
  · exact .inl (one _ h)
  · exact .inr (one _ h)
theorem joinB_step (l : List S33) (i : Nat) (hi : i < l.length) : Lib.byteCells (joinB (l.take i)) ++ Lib.strCells (l[i]).f1 = Lib.byteCells (joinB (l.take (i + 1))) := by
  have e : joinB (l.take (i + 1)) = joinB (l.take i) ++ (l[i]).f1.data.toList := by unfold joinB; rw [List.take_succ_eq_append_getElem hi, List.flatMap_append, List.flatMap_cons, List.flatMap_nil, List.append_nil]
  rw [e]
  simp only [Lib.byteCells, Lib.strCells, List.map_append]
theorem joinB_len (l : List S33) (i : Nat) (hi : i < l.length) : (joinB (l.take i)).length + (l[i]).f1.size ≤ (joinB l).length := by
  have e : l = l.take i ++ l[i] :: l.drop (i + 1) := by rw [← List.drop_eq_getElem_cons hi, List.take_append_drop]
  have h : (joinB l).length = (joinB (l.take i)).length + ((l[i]).f1.data.toList.length + (joinB (l.drop (i + 1))).length) := by
    conv => lhs; rw [e]
    simp only [joinB, List.flatMap_append, List.flatMap_cons, List.length_append]
  rw [h, data_length]
  omega
theorem hsz_of (l : List S33) (i : Nat) (hi : i < l.length) (h : (joinB l).length ≤ 140737488355328) : (Lib.byteCells (joinB (l.take i))).length + (l[i]).f1.size ≤ 140737488355328 := by
  have h1 := joinB_len l i hi
  rw [Lib.byteCells_length]
  exact Nat.le_trans h1 h
theorem meas_of (n i : Nat) (h : i < n) : n - (i + 1) < n - i := by omega
theorem meas_int (n i : Nat) (z : Int) (hz : z = ((i + 1 : Nat) : Int)) (h : i < n) : n - (intOf (Value.int .i64 z)).toNat < n - (intOf (Value.int .i64 (i : Int))).toNat := by
  subst hz
  simp only [intOf, Int.toNat_natCast]
  exact meas_of n i h
theorem hwrap_next (i : Nat) (h : i < 9223372036854775807) : wrap64 ((i : Int) + 1) = ((i + 1 : Nat) : Int) := by unfold wrap64; omega
theorem rd33_at (l : List S33) (i : Nat) (hi : i < l.length) : rd_T33 l (i : Int) = l[i] := by
  unfold rd_T33
  rw [Int.toNat_natCast, List.getD_eq_getElem?_getD, List.getElem?_eq_getElem hi]
  rfl

set_option maxHeartbeats 2000000 in
set_option maxRecDepth 100000 in
theorem join_any (A0 : Option Addr) (c0 : Nat) (l0 : List S33) (w : World) (hr0 : Kd.C k33 w A0 l0.length l0) (hlen : (joinB l0).length ≤ 140737488355328) :
    Calls Tryd.prog 22 #[.slice A0 l0.length c0] w fun e w' => e = .returned (.string ⟨(joinB l0).toArray⟩) ∧ Below w.heap.size w w' := by
  have HR0 := Aside0.mk hr0; clear hr0
  have HLEN := Aside0.mk hlen; clear hlen
  have HMX : Aside0 (l0.length ≤ 9223372036854775807) := ⟨HR0.out.2.1⟩
  go_enter Tryd.func22, Tryd.ntmps22
  go_wp2
  go_loopw [8] (fun a wr => ∃ i : Nat, i ≤ l0.length ∧ a = .int .i64 i ∧ Aside0 (Lib.IsBuilder 52 5 w.heap.size w.heap.size (Lib.byteCells (joinB (l0.take i))) wr) ∧ Aside0 (Below w.heap.size w wr)) (fun a _ => l0.length - (intOf a).toNat)
  case atStart =>
    refine ⟨0, Nat.zero_le _, rfl, ⟨?_⟩, ⟨?_⟩⟩
    · refine .inl ⟨Nat.le_refl _, .slice none 0 0, ?_, World.ownsRow_nil _ _ _ _, by simp [Value.ownBlock]⟩
      exact blk_new w _
    · exact below_alloc (Below.refl _ _) _
  case round =>
    obtain ⟨i, hi, rfl, HBL, HB⟩ := hrel
    by_cases hlt : i < l0.length
    · have c1 : decide ((i : Int) < (l0.length : Int)) = true := decide_eq_true (by omega)
      have p1 : 0 ≤ (i : Int) := by omega
      have q1 : (i : Int) < (l0.length : Int) := by omega
      obtain ⟨ad, e, hx0, hx1, hx2⟩ := at_T33 HR0.out (i : Int) p1 q1
      cases e
      replace hx0 := (HB.out.cell (World.block_lt_of_cell? w _ hx0)).trans hx0
      replace hx1 := (HB.out.cell (World.block_lt_of_cell? w _ hx1)).trans hx1
      replace hx2 := (HB.out.cell (World.block_lt_of_cell? w _ hx2)).trans hx2
      rw [rd33_at l0 i hlt] at hx0 hx1 hx2
      rw [Int.toNat_natCast] at hx0 hx1 hx2
      have hw := hwrap_next i (by have := HMX.out; omega)
      have HLT := Aside0.mk hlt
      obtain ⟨W2, hW2⟩ : ∃ W2, W2 = wr.alloc (Obj.cells #[Value.int IntKind.u8 (l0[i]).f0, Value.string (l0[i]).f1, Value.int IntKind.i64 (l0[i]).f2] 33) := ⟨_, rfl⟩
      have BA : Below wr.heap.size wr W2 := by rw [hW2]; exact below_alloc (Below.refl _ _) _
      have hsz := hsz_of l0 i hlt HLEN.out
      have HC := Tryd.Builder_WriteString w.heap.size w.heap.size _ (l0[i]).f1 W2 (bld_below HBL.out BA) hsz (Nat.le_trans (below_size HB.out) BA.size)
      rw [joinB_step l0 i hlt] at HC
      have HC' := Aside0.mk HC
      have HW2 := Aside0.mk hW2
      have HB3 : Aside0 (Below w.heap.size w W2) := ⟨by rw [hW2]; exact below_alloc HB.out _⟩
      clear HC hsz hW2 BA
      go_wp2_with (fail)
      rw [← HW2.out]
      refine HC'.out.mono ?_
      rintro e w' ⟨rfl, hbl, hb⟩
      have HB2 := Aside0.mk (HB3.out.trans hb)
      have HBL2 : Aside0 (Lib.IsBuilder 52 5 w.heap.size w.heap.size (Lib.byteCells (joinB (l0.take (i + 1)))) w') := ⟨.inr hbl⟩
      clear hbl hb HBL HB HB3 HC'
      go_wp2
      go_roundw
      case rel => exact ⟨i + 1, HLT.out, by go_num, HBL2, HB2⟩
      case measure =>
        exact meas_int _ _ _ hw HLT.out
    · obtain rfl : i = l0.length := by omega
      have c1 : decide ((l0.length : Int) < (l0.length : Int)) = false := decide_eq_false (by omega)
      have hbl := HBL.out
      rw [List.take_length] at hbl
      have HC := (Tryd.Builder_String_any w.heap.size w.heap.size (joinB l0) wr hbl (below_size HB.out))
      have HC' := Aside0.mk HC
      clear hbl HC hi
      go_wp2_with (fail)
      refine HC'.out.mono ?_
      rintro e w' ⟨rfl, hb⟩
      have HB2 := Aside0.mk (HB.out.trans hb)
      clear hb
      go_wp2
      go_ret
      exact ⟨rfl, HB2.out⟩

def lexer_Join.f (l0 : List S33) : Option ByteArray := if (joinB l0).length ≤ 140737488355328 then some ⟨(joinB l0).toArray⟩ else none
theorem lexer_Join.calls (A0 : Option Addr) (c0 : Nat) (l0 : List (S33)) (r : ByteArray) (w : World) (hr0 : Kd.C k33 w A0 l0.length l0) (_hc0 : l0.length ≤ c0) (h : lexer_Join.f l0 = some r) :
    Calls Tryd.prog 22 #[.slice A0 l0.length c0] w fun e w' => e = .returned (.string r) ∧ Below w.heap.size w w' := by
  unfold lexer_Join.f at h
  by_cases hl : (joinB l0).length ≤ 140737488355328
  · rw [if_pos hl] at h
    obtain rfl := Option.some.inj h
    exact join_any A0 c0 l0 w hr0 hl
  · rw [if_neg hl] at h; cases h

end Go.Proofs.YtapkfblkghoknaaDoor.PX
