/-
  The contract of Lex.
-/
import Derived.Test.YtapkfblkghoknaaDoorNext
import Derived.Lib.IndexBytes
import Derived.Lib.AppendIntMem
namespace Go.Proofs.YtapkfblkghoknaaDoor
open Go.RowKit

theorem Tab.below {w w' : World} (h : Tab w) (hb : Below w.heap.size w w') : Tab w' := Lib.tabBelow_of_tabIs h w' hb

def tkCells (ts : List Tk) : List Value := ts.flatMap fun t => [.int .u8 (t.kind : Int), .string (bstr t.text), .int .i64 (t.pos : Int)]
theorem tkCells_append (a b : List Tk) : tkCells (a ++ b) = tkCells a ++ tkCells b := by simp [tkCells]
theorem tkCells_length (l : List Tk) : (tkCells l).length = l.length * 3 := by
  induction l with
  | nil => rfl
  | cons o l ih => simp only [tkCells, List.flatMap_cons, List.length_append, List.length_cons] at ih ⊢; simp only [List.length_nil]; omega
/-- A slice of tokens that the call owns. -/
def TRow (w : World) (B : Nat) (v : Value) (ts : List Tk) : Prop := w.ownsRow B 33 3 v ts.length (tkCells ts)
theorem TRow.nil (w : World) (B : Nat) : TRow w B (.slice none 0 0) [] := World.ownsRow_nil _ _ _ _
theorem TRow.shape {w : World} {B : Nat} {v : Value} {ts : List Tk} (h : TRow w B v ts) : ∃ A c, v = .slice A ts.length c := by
  rcases h.2 with ⟨h, h0⟩ | ⟨g, c, cur, h, _⟩
  · exact ⟨none, 0, by rw [h, h0]⟩
  · exact ⟨_, _, h⟩
theorem TRow.below {w w' : World} {B : Nat} {v : Value} {ts : List Tk} (h : TRow w B v ts) (hb : Below w.heap.size w w') : TRow w' B v ts :=
  World.ownsRow.kept (row := none) h ⟨hb.os, hb.tape, hb.output, hb.size, fun k hk _ => hb.block k hk⟩ (by cases v.ownBlock <;> simp)

/-- What Lex answers: the tokens, an offset, an error number. -/
def lexR (l : Bs) : List Tk × Nat × Nat :=
  if 65536 < l.length then ([], 0, 5)
  else match (lexGo l 0).2 with
    | none => ((lexGo l 0).1, 0, 0)
    | some q => ([], q, 3)

theorem bytes_ext {a b : ByteArray} (h : a.data.toList = b.data.toList) : a = b := by
  obtain ⟨⟨x⟩⟩ := a
  obtain ⟨⟨y⟩⟩ := b
  simp only at h
  rw [h]
theorem bstr_extract (s : ByteArray) (a b : Nat) : s.extract a b = bstr ((s.data.toList.drop a).take (b - a)) := bytes_ext (Lib.extract_data s a b)

theorem Tryd.info33 : (Tryd.prog.info? 33).map (fun i => (i.zero, i.size, i.bytes)) = some (some (.agg #[.int .u8 0, .string ByteArray.empty, .int .i64 0]), 3, 32) := by kernel_rfl

theorem lex_big (s : ByteArray) (w : World) (hs : 65536 < s.size) : Calls Tryd.prog 13 #[.string s] w fun e w' => e = .returned (.tuple #[.slice none 0 0, .int .i64 0, .int .i64 5]) ∧ w = w' := by
  have h : (65536 : Int) < (s.size : Int) := by omega
  clear hs
  go_enter Tryd.func13, Tryd.ntmps13
  go_wp2
  go_ret3
  exact ⟨rfl, rfl⟩

def LexPost (w : World) (R : List Tk × Nat × Nat) (e : Ending) (w' : World) : Prop :=
  ∃ v, e = .returned (.tuple #[v, .int .i64 (R.2.1 : Int), .int .i64 (R.2.2 : Int)]) ∧ TRow w' w.heap.size v R.1 ∧ Below w.heap.size w w'

set_option maxHeartbeats 2000000 in
set_option maxRecDepth 100000 in
theorem lex_small (s : ByteArray) (w : World) (ht : Tab w) (hs : s.size ≤ 65536) : Calls Tryd.prog 13 #[.string s] w (LexPost w (lexR s.data.toList)) := by
  obtain ⟨l, hl⟩ : ∃ l, l = s.data.toList := ⟨_, rfl⟩
  rw [← hl]
  have hsz : l.length = s.size := by rw [hl]; simp
  have hR : lexR l = match (lexGo l 0).2 with
    | none => ((lexGo l 0).1, 0, 0)
    | some q => ([], q, 3) := by unfold lexR; rw [if_neg (by omega)]
  have HR := Lib.hid hR; clear hR
  have HL := Lib.hid hl; clear hl
  have HSZ := Lib.hid hsz; clear hsz
  have HT := Lib.hid ht; clear ht
  have hs' : (s.size : Int) ≤ 65536 := by omega
  have HS := Lib.hid hs; clear hs
  have hd : decide ((65536 : Int) < (s.size : Int)) = false := by rw [decide_eq_false_iff_not]; omega
  obtain ⟨i0, hi, hz0, hz1, hz2⟩ := info_parts Tryd.info33
  have hz2' := Lib.hid hz2; clear hz2
  go_enter Tryd.func13, Tryd.ntmps13
  go_wp2
  go_loopw [5, 6] (fun v a wr => ∃ p : Nat, p ≤ s.size ∧ a = .int .i64 p ∧ ∃ ts, Hid (lexGo l 0 = (ts ++ (lexGo (l.drop p) p).1, (lexGo (l.drop p) p).2)) ∧ Hid (ts.length ≤ p) ∧ Hid (TRow wr w.heap.size v ts) ∧ Hid (Below w.heap.size w wr)) (fun _ a _ => s.size - (intOf a).toNat)
  case atStart => exact ⟨0, Nat.zero_le _, rfl, [], (show lexGo l 0 = ([] ++ (lexGo (l.drop 0) 0).1, (lexGo (l.drop 0) 0).2) by simp), Nat.le_refl _, TRow.nil _ _, Below.refl _ _⟩
  case round =>
    obtain ⟨p, hp, rfl, ts, hgo, hlen, hrow, hbel⟩ := hrel
    by_cases hlt : p < s.size
    · have hlt' : (p : Int) < (s.size : Int) := by omega
      have hps : p ≤ s.size := hp
      have htab := Lib.hid (HT.out.below hbel.out)
      have hxs : (s.extract p s.size).data.toList = l.drop p := by rw [Lib.extract_to_end, HL.out]
      have hxz : (s.extract p s.size).size = s.size - p := by
        have : (s.extract p s.size).data.toList.length = (s.extract p s.size).size := by simp
        rw [← this, hxs, List.length_drop, HSZ.out]
      have hnx := next_any (s.extract p s.size) wr htab.out (by omega) (by have := HS.out; omega)
      rw [hxs] at hnx
      have HNX := Lib.hid hnx; clear hnx hxs hxz
      obtain ⟨k, n, hkn⟩ : ∃ k n, nextL (l.drop p) = (k, n) := ⟨_, _, rfl⟩
      rw [hkn] at HNX
      have hne : Hid (l.drop p ≠ []) := fun e => by have := congrArg List.length e; rw [List.length_drop, HSZ.out] at this; simp at this; omega
      have hnle : Hid (p + n ≤ s.size) := by have := nextL_le (l.drop p); rw [hkn, List.length_drop, HSZ.out] at this; show _ ≤ _; simp only at this; omega
      have HKN := Lib.hid hkn; clear hkn
      go_wp2_with fail
      refine HNX.out.mono ?_
      rintro e w1 ⟨rfl, hb1⟩
      have B1 := Lib.hid (hbel.out.trans (hb1.mono hbel.out.size))
      have R1 := Lib.hid (hrow.out.below hb1)
      clear hb1 HNX htab
      dsimp only
      by_cases hn0 : n = 0
      · subst hn0
        have hbad := lexGo_bad p hne.out (by rw [HKN.out])
        have hR3 : lexR l = ([], p, 3) := by rw [HR.out, hgo.out, hbad]
        have hpost : Hid (LexPost w (lexR l) (.returned (.tuple #[.slice none 0 0, .int .i64 p, .int .i64 3])) w1) := by
          rw [hR3]
          exact ⟨_, rfl, TRow.nil _ _, B1.out⟩
        clear hbad hR3
        go_wp2
        go_ret3
        exact hpost.out
      · have hok := lexGo_ok p hne.out (by rw [HKN.out]; exact hn0)
        rw [HKN.out] at hok
        have HOK := Lib.hid hok; clear hok
        have hnz : ((n : Int) == 0) = false := by rw [beq_eq_false_iff_ne]; omega
        have hn1 : (p : Int) + (n : Int) ≤ (s.size : Int) := by have := hnle.out; omega
        have hnn : p + n ≤ s.size := hnle.out
        have hpn : p ≤ p + n := Nat.le_add_right _ _
        clear hn0
        have hst : Hid (((l.drop p).drop n) = l.drop (p + n)) := by show _ = _; rw [List.drop_drop]
        have kk : Hid (Below w1.heap.size w1 (w1.alloc (.cells #[.int .u8 k, .string (s.extract p (p + n)), .int .i64 p] 33))) := (Below.refl _ _).alloc (Nat.le_refl _) _
        have R2 := Lib.hid (R1.out.below kk.out)
        have B2 := Lib.hid (B1.out.trans (kk.out.mono B1.out.size))
        have s2 := Lib.hid B2.out.size
        have hts : Hid (ts.length ≤ 65536) := by have := hlen.out; have := HS.out; show _ ≤ _; omega
        go_wp2_with (at_builtin; refine wpList_append_own _ rfl (.tmp 26) (.tmp 36) 23 rfl w.heap.size 33 i0 (.agg #[.int .u8 0, .string ByteArray.empty, .int .i64 0]) 3 32 Tryd.underlying23 hi hz0 hz1 hz2'.out rfl (by decide) _ ts.length (tkCells ts) rfl R2.out ⟨w1.heap.size, 0, none⟩ 1 1 [.int .u8 k, .string (s.extract p (p + n)), .int .i64 p] rfl rfl ?c1 ?c2 ?c3 ?c4 s2.out ?_)
        case c2 => exact ⟨rfl, rfl, rfl⟩
        case c3 => unfold maxLen; have := hts.out; omega
        case c4 => have := hts.out; omega
        intro v' w5 hown hg _
        have R6 : Hid (TRow w5 w.heap.size v' (ts ++ [⟨k, (l.drop p).take n, p⟩])) := by
          show World.ownsRow _ _ _ _ _ _ _
          have e1 : (ts ++ [(⟨k, (l.drop p).take n, p⟩ : Tk)]).length = ts.length + 1 := by simp
          have e2 : tkCells (ts ++ [⟨k, (l.drop p).take n, p⟩]) = tkCells ts ++ [.int .u8 k, .string (s.extract p (p + n)), .int .i64 p] := by
            rw [tkCells_append, bstr_extract, HL.out, Nat.add_sub_cancel_left]; rfl
          rw [e1, e2]
          exact hown
        have B6 := Lib.hid (B2.out.grown hg s2.out (fun k hk => (World.ownsRow.lt R2.out k hk).1))
        have G6 : Hid (lexGo l 0 = ((ts ++ [⟨k, (l.drop p).take n, p⟩]) ++ (lexGo (l.drop (p + n)) (p + n)).1, (lexGo (l.drop (p + n)) (p + n)).2)) := by
          show _ = _
          rw [hgo.out, HOK.out, hst.out, List.append_assoc]
          rfl
        have hlen6 : Hid ((ts ++ [(⟨k, (l.drop p).take n, p⟩ : Tk)]).length ≤ p + n) := by
          have := hlen.out
          show _ ≤ _
          rw [List.length_append, List.length_singleton]
          have hn0 : n ≠ 0 := fun e => by rw [e] at hnz; simp at hnz
          omega
        clear hown hg R2 R1 B1 B2 hrow hgo hlen
        go_wp2
        go_roundw
        case rel => exact ⟨p + n, by omega, by go_num, _, G6, hlen6, R6, B6⟩
        case measure =>
          have hn0 : n ≠ 0 := fun e => by rw [e] at hnz; simp at hnz
          simp [intOf]; omega
    · obtain rfl : p = s.size := by omega
      have hfin : Hid (lexR l = (ts, 0, 0)) := by
        have e : l.drop s.size = [] := List.drop_of_length_le (by rw [HSZ.out]; exact Nat.le_refl _)
        have h := hgo.out
        rw [e, lexGo_nil, List.append_nil] at h
        show _ = _
        rw [HR.out, h]
      obtain ⟨A, c, rfl⟩ := hrow.out.shape
      have hpost : Hid (LexPost w (lexR l) (.returned (.tuple #[.slice A ts.length c, .int .i64 0, .int .i64 0])) wr) := by
        rw [hfin.out]
        exact ⟨_, rfl, hrow.out, hbel.out⟩
      clear hlt hp
      go_wp2
      go_ret3
      exact hpost.out

theorem lex_any (s : ByteArray) (w : World) (ht : Tab w) : Calls Tryd.prog 13 #[.string s] w (LexPost w (lexR s.data.toList)) := by
  by_cases h : 65536 < s.size
  · have hR : lexR s.data.toList = ([], 0, 5) := by unfold lexR; rw [if_pos (by simpa using h)]
    rw [hR]
    refine (lex_big s w h).mono ?_
    rintro e w' ⟨rfl, rfl⟩
    exact ⟨_, rfl, TRow.nil _ _, Below.refl _ _⟩
  · exact lex_small s w ht (by omega)

end Go.Proofs.YtapkfblkghoknaaDoor
