/-
  The contract of Keyword: the map that keywords makes, looked into once.
-/
import Derived.Test.YtapkfblkghoknaaDoorPX0
import Derived.Test.YtapkfblkghoknaaDoorPlain
import Derived.Test.YtapkfblkghoknaaDoorLex
import Derived.Maps.OwnOps
import Derived.Maps.Views
namespace Go.Proofs.YtapkfblkghoknaaDoor.PX
open Go.RowKit Go.Proofs.YtapkfblkghoknaaDoorW.PrintWords Go.Proofs.YtapkfblkghoknaaDoorW.PrintLast Go.Proofs.YtapkfblkghoknaaDoorW.PrintMore

/-- The map after n keywords. -/
def kwD (n : Nat) : DataW Unit := (kwL.take n).foldl (fun d x => d.put (.string x) (.lit (.bool true))) (.map [])
theorem kwD_step (n : Nat) (x : Bs) (h : kwL[n]? = some x) : kwD (n + 1) = (kwD n).put (.string x) (.lit (.bool true)) := by
  unfold kwD
  obtain ⟨h1, rfl⟩ := List.getElem?_eq_some_iff.1 h
  rw [List.take_succ_eq_append_getElem h1, List.foldl_append]
  rfl
theorem law9 : Go.Maps.Keyed Tryd.prog 9 := Go.Maps.string_keyed Tryd.underlying9
theorem zero4 (w : World) : (zeroValue 4).run Tryd.prog w = .ok (.bool false) w := by kernel_rfl

set_option maxHeartbeats 2000000 in
set_option maxRecDepth 100000 in
theorem keywords_any (w : World) (ht : Tab w) : Calls Tryd.prog 25 #[] w fun e w' => e = .returned (.map (some w.heap.size)) ∧ w'.ownsMap Tryd.prog 9 (plainElem Tryd.prog 4) w.heap.size 23 (kwD 23) ∧ Below w.heap.size w w' := by
  have HT := Aside0.mk ht; clear ht
  have hmm := @run_makeMap Tryd.prog
  go_enter Tryd.func25, Tryd.ntmps25
  go_wp2_with (fail)
  refine (fields_kw _ (Tab.below HT.out (below_alloc (Below.refl _ _) _))).mono ?_
  rintro e w1 ⟨rfl, hw1⟩
  have hbel : Aside0 (Below w.heap.size w w1) := by rw [hw1]; exact ⟨below_alloc (below_alloc (Below.refl _ _) _) _⟩
  have hgs : Aside0 ((w.alloc (Obj.map #[] 0)).heap.size = w.heap.size + 1) := ⟨Array.size_push _⟩
  have hown : Aside0 (w1.ownsMap Tryd.prog 9 (plainElem Tryd.prog 4) w.heap.size 0 (kwD 0)) := by rw [hw1]; exact ⟨(World.ownsMap_made w Tryd.prog 9 _).alloc _⟩
  obtain ⟨g, hg⟩ : ∃ g, g = (w.alloc (Obj.map #[] 0)).heap.size := ⟨_, rfl⟩
  have hblk : Aside0 (w1.heap[g]? = some (.cells (strsV kwL).toArray 9 (0, 0))) := by rw [hw1, hg]; exact ⟨blk_new _ _⟩
  have hgb : Aside0 (g = w.heap.size + 1) := ⟨hg.trans hgs.out⟩
  rw [← hg]
  clear hw1 hg hgs
  go_wp2
  go_loopw [7] (fun a wr => ∃ i : Nat, i ≤ 23 ∧ a = .int .i64 i ∧ Aside0 (wr.ownsMap Tryd.prog 9 (plainElem Tryd.prog 4) w.heap.size i (kwD i)) ∧ Aside0 (wr.heap[g]? = some (.cells (strsV kwL).toArray 9 (0, 0))) ∧ Aside0 (Below w.heap.size w wr)) (fun a _ => 23 - (intOf a).toNat)
  case atStart => exact ⟨0, Nat.zero_le _, rfl, hown, hblk, hbel⟩
  case round =>
    obtain ⟨i, hi, rfl, HO, HC, HB⟩ := hrel
    by_cases hlt : i < 23
    · have c1 : (i : Int) < 23 := by omega
      have hil : i < kwL.length := hlt
      obtain ⟨x, hx⟩ : ∃ x, kwL[i]? = some x := ⟨_, List.getElem?_eq_getElem hil⟩
      have hcell : wr.cell? ⟨g, i, none⟩ = some (.string (bstr x)) := by
        rw [blk_cell HC.out i]
        simp [strsV, hx]
      have HX := Aside0.mk hx; clear hx
      have hkey : keyOf Tryd.prog 9 (.string (bstr x)) = some (.string x) := by
        have hx2 : x.length ≤ 20 := (by decide : ∀ y ∈ kwL, y.length ≤ 20) x (List.mem_of_getElem? HX.out)
        have h := Go.WideMaps.keyOf_string_mk (P := Tryd.prog) (s := bstr x) Tryd.underlying9 (by rw [show (bstr x).size = x.length from by show x.toArray.size = _; simp]; unfold maxLen; omega)
        exact h
      clear hi
      go_wp2_with (first | (at_mapUpdate; refine wpList_mapUpdate_own _ rfl _ _ _ 48 rfl 9 4 law9 Tryd.underlying48 _ w.heap.size i (kwD i) rfl HO.out (by unfold maxLen; omega) _ _ _ rfl rfl hkey _ [] (plainElem_bool Tryd.underlying4 true) ?_; intro w2 hown2 hgrow2))
      have HB2 : Aside0 (Below w.heap.size w w2) := ⟨HB.out.grown hgrow2 (below_size HB.out) (fun k hk => by cases hk; exact Nat.le_refl _)⟩
      have HC2 : Aside0 (w2.heap[g]? = some (.cells (strsV kwL).toArray 9 (0, 0))) := ⟨blk_grown HC.out hgrow2 (by rw [hgb.out]; intro h; injection h with h; omega)⟩
      rw [← kwD_step i x HX.out] at hown2
      have HO2 := Aside0.mk hown2
      clear hown2 hgrow2 HO HC HB hcell
      go_wp2
      go_roundw
      case rel => exact ⟨i + 1, hlt, by go_num, HO2, HC2, HB2⟩
      case measure => simp [intOf]; omega
    · obtain rfl : i = 23 := by omega
      clear hlt hi
      go_wp2
      go_ret
      exact ⟨rfl, HO.out, HB.out⟩

theorem fold_map : ∀ (l : List Bs) (D : DataW Unit), Go.Maps.IsMap D → Go.Maps.IsMap (l.foldl (fun d x => d.put (.string x) (.lit (.bool true))) D)
  | [], _, h => h
  | x :: l, D, h => by
    obtain ⟨es, rfl⟩ := h
    exact fold_map l _ ⟨_, rfl⟩
theorem kwD_map (n : Nat) : Go.Maps.IsMap (kwD n) := fold_map _ _ ⟨[], rfl⟩
theorem kwD_at (s : Bs) (n : Nat) (hn : n ≤ 23) : (kwD n).atKey (.string s) (.lit (.bool false)) = .lit (.bool (decide (s ∈ kwL.take n))) := by
  induction n with
  | zero => rfl
  | succ n ih =>
    have hl : n < kwL.length := hn
    have hg : kwL[n]? = some kwL[n] := List.getElem?_eq_getElem hl
    rw [kwD_step n _ hg, List.take_succ_eq_append_getElem hl]
    by_cases h : s = kwL[n]
    · rw [← h, Go.Maps.atKey_put_same (kwD_map n) (by trivial)]
      simp
    · rw [Go.Maps.atKey_put_other (by intro e; injection e with e; exact h e), ih (Nat.le_of_succ_le hn)]
      congr 2
      rw [decide_eq_decide, List.mem_append, List.mem_singleton]
      exact ⟨Or.inl, fun o => o.resolve_right h⟩

set_option maxHeartbeats 2000000 in
set_option maxRecDepth 100000 in
theorem keyword_any (a : ByteArray) (w : World) (ht : Tab w) (hs : a.size ≤ 140737488351232) : Calls Tryd.prog 19 #[.string a] w fun e w' => e = .returned (.bool (decide (a.data.toList ∈ kwL))) ∧ Below w.heap.size w w' := by
  have HT := Aside0.mk ht; clear ht
  have HS := Aside0.mk hs; clear hs
  go_enter Tryd.func19, Tryd.ntmps19
  go_wp2_with (fail)
  refine (keywords_any w HT.out).mono ?_
  rintro e w1 ⟨rfl, hown, hb⟩
  have hkey : keyOf Tryd.prog 9 (.string a) = some (.string a.data.toList) := Go.WideMaps.keyOf_string_mk Tryd.underlying9 (by have := HS.out; unfold maxLen; omega)
  obtain ⟨v, ps, hrun, hv⟩ := hown.lookup law9 Tryd.underlying48 (zero4 w1) (plainElem_bool Tryd.underlying4 false) hkey
  have hat := kwD_at a.data.toList 23 (Nat.le_refl _)
  rw [hat, show kwL.take 23 = kwL from rfl] at hv
  have hvb : v = .bool (decide (a.data.toList ∈ kwL)) := by
    unfold plainElem at hv
    rw [Tryd.underlying4] at hv
    cases v <;> simp at hv
    rw [hv.1]
  subst hvb
  have HB := Aside0.mk hb
  clear hown hb hkey hat hv
  go_wp2
  go_ret
  exact ⟨rfl, HB.out⟩

def lexer_Keyword.f (a0 : ByteArray) : Option Bool := if a0.size ≤ 140737488351232 then some (decide (a0.data.toList ∈ kwL)) else none
theorem lexer_Keyword.calls (a0 : ByteArray) (r : Bool) (w : World) (htab : Tab w) (h : lexer_Keyword.f a0 = some r) :
    Calls Tryd.prog 19 #[.string a0] w fun e w' => e = .returned (.bool r) ∧ Below w.heap.size w w' := by
  unfold lexer_Keyword.f at h
  by_cases hl : a0.size ≤ 140737488351232
  · rw [if_pos hl] at h
    obtain rfl := Option.some.inj h
    exact keyword_any a0 w htab hl
  · rw [if_neg hl] at h; cases h

end Go.Proofs.YtapkfblkghoknaaDoor.PX
