/-
  The contract of Lex, told as the printed texts tell theirs.
-/
import Derived.Test.YtapkfblkghoknaaDoorPX0
import Derived.Test.YtapkfblkghoknaaDoorLex
namespace Go.Proofs.YtapkfblkghoknaaDoor.PX
open Go.RowKit Go.Proofs.YtapkfblkghoknaaDoorW.PrintWords Go.Proofs.YtapkfblkghoknaaDoorW.PrintLast Go.Proofs.YtapkfblkghoknaaDoorW.PrintMore

/-- A token as the printed texts tell it. -/
def s33 (t : Tk) : S33 := ⟨(t.kind : Int), bstr t.text, (t.pos : Int)⟩
theorem reps33_from (w : World) (base : Nat) (ok : Nat → Prop) : ∀ (ts : List Tk) (pre : List S33) (cs : List Value), Reps (k33.M w base ok) 3 pre cs → Reps (k33.M w base ok) 3 (pre ++ ts.map s33) (cs ++ tkCells ts)
  | [], pre, cs, h => by simpa [tkCells] using h
  | t :: ts, pre, cs, h => by
    have h1 := h.snoc (p := s33 t) (c := [.int .u8 (t.kind : Int), .string (bstr t.text), .int .i64 (t.pos : Int)]) (k33_mkM w base ok (s33 t)) rfl
    have h2 := reps33_from w base ok ts _ _ h1
    have e1 : pre ++ [s33 t] ++ ts.map s33 = pre ++ (t :: ts).map s33 := by simp
    have e2 : cs ++ [.int .u8 (t.kind : Int), .string (bstr t.text), .int .i64 (t.pos : Int)] ++ tkCells ts = cs ++ tkCells (t :: ts) := by simp [tkCells]
    rw [e1, e2] at h2
    exact h2
theorem row33 {w : World} {B : Nat} {v : Value} {ts : List Tk} (h : TRow w B v ts) : Kd.R k33 33 w B (fun _ => True) v (ts.map s33) := by
  refine ⟨fun _ _ => trivial, tkCells ts, ?_, ?_⟩
  · rw [List.length_map]; exact h
  · have h2 := reps33_from w B (fun k => True ∧ some k ≠ v.ownBlock) ts [] [] (Reps.none _ _)
    exact h2

def lexer_Lex.f (a0 : ByteArray) : Option ((List (S33)) × Int × Int) := some ((lexR a0.data.toList).1.map s33, ((lexR a0.data.toList).2.1 : Int), ((lexR a0.data.toList).2.2 : Int))
theorem lexer_Lex.calls (a0 : ByteArray) (r1 : List (S33)) (r2 : Int) (r3 : Int) (w : World) (htab : Tab w) (h : lexer_Lex.f a0 = some (r1, r2, r3)) :
    Calls Tryd.prog 13 #[.string a0] w fun e w' => ∃ v0_ : Value, e = .returned (.tuple #[v0_, .int .i64 r2, .int .i64 r3]) ∧ Kd.R k33 33 w' w.heap.size (fun _ => True) v0_ r1 ∧ Below w.heap.size w w' := by
  have h' := Option.some.inj h
  simp only [Prod.mk.injEq] at h'
  obtain ⟨rfl, rfl, rfl⟩ := h'
  refine (lex_any a0 w htab).mono ?_
  rintro e w' ⟨v, rfl, hr, hb⟩
  exact ⟨v, rfl, row33 hr, hb⟩

end Go.Proofs.YtapkfblkghoknaaDoor.PX
