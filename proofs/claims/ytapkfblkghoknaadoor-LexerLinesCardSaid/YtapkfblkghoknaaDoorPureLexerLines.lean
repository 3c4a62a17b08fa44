/-
  The law LexerLines for every input: the pure law of the seam joined to the walks.
-/
import Derived.Test.YtapkfblkghoknaaDoorHandLines2
namespace Go.Proofs.YtapkfblkghoknaaDoor.PX
open Go.RowKit Go.Proofs.YtapkfblkghoknaaDoorW.PrintWords Go.Proofs.YtapkfblkghoknaaDoorW.PrintLast Go.Proofs.YtapkfblkghoknaaDoorW.PrintMore

theorem seam_list (a b : ByteArray) : (a ++ (⟨#[10]⟩ : ByteArray) ++ b).data.toList = a.data.toList ++ 10 :: b.data.toList := by
  simp
theorem pos_le (s : Bs) (t : Tk) (h : (lexGo s 0).2 = none) (ht : t ∈ (lexGo s 0).1) : t.pos ≤ s.length := by
  obtain ⟨i, hi⟩ := List.getElem?_of_mem ht
  have := lexGo_places s 0 i t hi
  omega
theorem lines_any (a b : ByteArray) (w : World) (ht : Tab w) : Calls Tryd.prog 7 #[.string a, .string b] w fun e w' => e = .returned (.bool true) ∧ Below w.heap.size w w' := by
  by_cases hbig : 200 < a.size ∨ 200 < b.size
  · exact lines_big a b w ht hbig
  have ha : a.size ≤ 200 := by omega
  have hb : b.size ≤ 200 := by omega
  have sa := size_list a
  have sb := size_list b
  have hz := seam_list a b
  obtain ⟨la, hla⟩ : ∃ l, l = a.data.toList := ⟨_, rfl⟩
  obtain ⟨lb, hlb⟩ : ∃ l, l = b.data.toList := ⟨_, rfl⟩
  obtain ⟨z, hzd⟩ : ∃ z, z = a ++ (⟨#[10]⟩ : ByteArray) ++ b := ⟨_, rfl⟩
  rw [← hzd] at hz
  obtain ⟨lz, hlz⟩ : ∃ l, l = z.data.toList := ⟨_, rfl⟩
  rw [← hla] at sa
  rw [← hlb] at sb
  rw [← hla, ← hlb, ← hlz] at hz
  have lzl : lz.length ≤ 401 := by rw [hz]; simp; omega
  have hline := solidGo_line lb la 0
  rw [← hz] at hline
  have hline2 := congrArg Prod.snd hline
  have hline1 := congrArg Prod.fst hline
  cases e1 : (lexGo la 0).2 with
  | some q =>
    rw [if_neg (by rw [e1]; simp)] at hline2
    have e3 : (lexGo lz 0).2 = some q := hline2.trans e1
    obtain ⟨T, p, r, h2⟩ : ∃ T p r, lexR lb = (T, p, r) := ⟨_, _, _, rfl⟩
    exact lines_bad1 a b w ht ha hb T q p r (by rw [← hla]; exact lexR_bad (by omega) e1) (by rw [← hlb]; exact h2) z hzd (by rw [← hlz]; exact lexR_bad (by omega) e3)
  | none =>
    rw [if_pos e1] at hline1 hline2
    have e0 : 0 + la.length + 1 = 0 + (a.size + 1) := by omega
    have hs := lexGo_shift lb 0 (a.size + 1)
    rw [e0] at hline1 hline2
    unfold solidGo at hline1 hline2
    rw [hs] at hline1 hline2
    cases e2 : (lexGo lb 0).2 with
    | some q =>
      obtain ⟨k, hk, hkl, _⟩ := lexGo_err lb 0 q e2
      rw [e2] at hline2
      have e3 : (lexGo lz 0).2 = some (q + (a.size + 1)) := hline2
      have eq : q + (a.size + 1) = a.size + 1 + q := by omega
      rw [eq] at e3
      exact lines_bad2 a b w ht ha hb _ q (by rw [← hla]; exact lexR_ok (by omega) e1) (by rw [← hlb]; exact lexR_bad (by omega) e2) (by omega) z hzd (by rw [← hlz]; exact lexR_bad (by omega) e3)
    | none =>
      rw [e2] at hline2
      have e3 : (lexGo lz 0).2 = none := hline2
      have l1 := lexGo_len la 0
      have l2 := lexGo_len lb 0
      have l3 := lexGo_len lz 0
      refine lines_main a b w ht ha hb (lexGo la 0).1 (lexGo lb 0).1 (lexGo lz 0).1 (by rw [← hla]; exact lexR_ok (by omega) e1) (by rw [← hlb]; exact lexR_ok (by omega) e2) z hzd (by rw [← hlz]; exact lexR_ok (by omega) e3) (by omega) (by omega) (by omega) ?_ ?_
      · have h := hline1
        dsimp only at h
        rw [h, List.filter_map]
        rfl
      · intro i hi
        rw [rd33_lt _ i hi]
        have hm : ((lexGo lb 0).1.filter solidT)[i] ∈ (lexGo lb 0).1 := (List.mem_filter.1 (List.getElem_mem hi)).1
        have hp := pos_le lb _ e2 hm
        refine ⟨?_, ?_⟩
        · show (0 : Int) ≤ (_ : Nat)
          omega
        · show ((_ : Nat) : Int) ≤ 65536
          omega

def backsteplaw02_LexerLines.f (_ : Nat) (_ _ : ByteArray) : Option Bool := some true
theorem backsteplaw02_LexerLines.calls (k : Nat) (a0 a1 : ByteArray) (r : Bool) (w : World) (htab : Tab w) (h : backsteplaw02_LexerLines.f k a0 a1 = some r) :
    Calls Tryd.prog 7 #[.string a0, .string a1] w fun e w' => e = .returned (.bool r) ∧ Below w.heap.size w w' := by
  obtain rfl := Option.some.inj h
  exact lines_any a0 a1 w htab
theorem PLexerLines (a0 a1 : ByteArray) : ∃ k, backsteplaw02_LexerLines.f k a0 a1 = some true := ⟨0, rfl⟩

end Go.Proofs.YtapkfblkghoknaaDoor.PX
