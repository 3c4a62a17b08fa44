/-
  Plain Lean: Lex's tokens are the reference's.
-/
import Derived.Test.YtapkfblkghoknaaDoorPureKind
import Derived.Test.YtapkfblkghoknaaDoorPX11
namespace Go.Proofs.YtapkfblkghoknaaDoor.PX
open Go.RowKit Go.Proofs.YtapkfblkghoknaaDoorW.PrintWords Go.Proofs.YtapkfblkghoknaaDoorW.PrintLast Go.Proofs.YtapkfblkghoknaaDoorW.PrintMore

/-- A token as the reference's. -/
def s47 (t : Tk) : S47 := ⟨(t.kind : Int), bstr t.text, (t.pos : Int)⟩
theorem rd47_get (l : List Tk) (i : Nat) (t : Tk) (h : l[i]? = some t) : rd_T47 (l.map s47) (i : Int) = s47 t := by
  unfold rd_T47
  rw [Int.toNat_natCast, List.getD_eq_getElem?_getD, List.getElem?_map, h]
  rfl

theorem ev_kind (a : ByteArray) (hb : a.size < 9223372036854775807) : Ev (fun k => backstepref02_Kind.f k a) ((kindL a.data.toList : Nat) : Int) :=
  ⟨a.size + 41, fun k hk => kind_of a hb k (by omega)⟩
theorem ext_list (a : ByteArray) (p n : Nat) : (a.extract ((p : Int)).toNat (((p + n : Nat) : Int)).toNat).data.toList = (a.data.toList.drop p).take n := by
  rw [Lib.extract_data, Int.toNat_natCast, Int.toNat_natCast, Nat.add_sub_cancel_left]
theorem ext_bstr (a : ByteArray) (p n : Nat) : a.extract ((p : Int)).toNat (((p + n : Nat) : Int)).toNat = bstr ((a.data.toList.drop p).take n) := by
  apply bytes_ext
  rw [ext_list]; rfl
theorem ext_size (a : ByteArray) (p n : Nat) (h : p + n ≤ a.size) : (a.extract ((p : Int)).toNat (((p + n : Nat) : Int)).toNat).size = n := by
  rw [← size_list, ext_list, List.length_take, List.length_drop, size_list]; omega

theorem ar1 (n d s p : Nat) (h : n + (d + 1) = s - p + 1) (hp : p < s) : p + n ≤ s := by omega
theorem ar2 (n d s p : Nat) (h : n + (d + 1) = s - p + 1) : (n : Int) ≤ ((s - p : Nat) : Int) := by omega
theorem ar3 (n d s p : Nat) (h : n + (d + 1) = s - p + 1) : n + 1 + d = s - p + 1 := by omega
theorem wrap_add (p n : Nat) (h : p + n ≤ 65536) : wrap64 ((p : Int) + (n : Int)) = ((p + n : Nat) : Int) := by rw [wrap_of _ (by omega) (by omega)]; omega
theorem wrap_next' (p n : Nat) (h : p + n ≤ 65536) : wrap64 ((n : Int) + 1) = ((n + 1 : Nat) : Int) := wrap_next n (by omega)
theorem ev_piece (a : ByteArray) (hb : a.size ≤ 65536) (p n : Nat) (h : p + n ≤ a.size) : Ev (fun k => backstepref02_Kind.f k (a.extract ((p : Int)).toNat (((p + n : Nat) : Int)).toNat)) ((kindL ((a.data.toList.drop p).take n) : Nat) : Int) := by
  have h1 := ext_size a p n h
  have h2 := ext_list a p n
  generalize a.extract ((p : Int)).toNat (((p + n : Nat) : Int)).toNat = x at h1 h2
  have hk := ev_kind x (by omega)
  rw [h2] at hk
  exact hk

/-- The search for the longest piece: from length n on, with what was best so far. -/
theorem best_loop (a : ByteArray) (hb : a.size ≤ 65536) (p : Nat) (hp : p < a.size) (out : List S47) (ho : out.length < 65537) (R : List S47 × Int × Int) (N : Nat) (hN : N = (nextL (a.data.toList.drop p)).2)
    (h0 : N = 0 → R = ([], (p : Int), 3))
    (h1 : N ≠ 0 → Ev (fun k => backstepref02_Lex.l0 k a (out ++ [s47 ⟨(nextL (a.data.toList.drop p)).1, (a.data.toList.drop p).take N, p⟩]) ((p + N : Nat) : Int)) R) (d : Nat) :
    ∀ n b : Nat, 1 ≤ n → n + d = a.size - p + 1 → (n ≤ N ∨ b = N) → Ev (fun k => backstepref02_Lex.l1 k a out (p : Int) (b : Int) (n : Int)) R := by
  have hne : a.data.toList.drop p ≠ [] := fun e => by have := congrArg List.length e; rw [List.length_drop, size_list] at this; simp at this; omega
  have hlen : (a.data.toList.drop p).length = a.size - p := by rw [List.length_drop, size_list]
  have hNl : N ≤ a.size - p := by rw [hN, ← hlen]; exact nextL_le _
  obtain ⟨r1, r2⟩ := nextL_ref _ hne
  rw [← hN] at r1 r2
  rw [hlen] at r1
  have hz : wrap64 ((a.size : Int) - (p : Int)) = ((a.size - p : Nat) : Int) := by rw [wrap_of _ (by omega) (by omega)]; omega
  induction d with
  | zero =>
    intro n b hn hd hnb
    have hbN : b = N := by rcases hnb with h | h <;> omega
    subst hbN
    by_cases hb0 : b = 0
    · refine Ev.step (f := fun _ => some R) (fun k => ?_) (Ev.now R)
      simp only [backstepref02_Lex.l1]
      rw [hz, if_neg (by omega), if_pos (by omega), h0 hb0]
    · have hpb : wrap64 ((p : Int) + (b : Int)) = ((p + b : Nat) : Int) := by rw [wrap_of _ (by omega) (by omega)]; omega
      have hpb' : p + b ≤ a.size := by omega
      have hk := ev_piece a hb p b hpb'
      rw [(r2 hb0).1] at hk
      refine Ev.step (f := fun k => (backstepref02_Kind.f k (a.extract ((p : Int)).toNat (((p + b : Nat) : Int)).toNat)).bind fun t136 => if out.length < 4398046511104 then backstepref02_Lex.l0 k a (out ++ [(⟨t136, a.extract ((p : Int)).toNat (((p + b : Nat) : Int)).toNat, (p : Int)⟩ : S47)]) ((p + b : Nat) : Int) else none) (fun k => ?_) (Ev.bind hk ?_)
      · simp only [backstepref02_Lex.l1]
        rw [hz, if_neg (by omega), if_neg (by omega), if_pos (by omega), hpb, if_pos (by omega), if_pos (by omega)]
      · refine Ev.congr (f := fun k => backstepref02_Lex.l0 k a (out ++ [s47 ⟨(nextL (a.data.toList.drop p)).1, (a.data.toList.drop p).take b, p⟩]) ((p + b : Nat) : Int)) (fun k => ?_) (h1 hb0)
        rw [if_pos (by omega), ext_bstr]
        rfl
  | succ d ih =>
    intro n b hn hd hnb
    have hpn' := ar1 n d a.size p hd hp
    have hk := ev_piece a hb p n hpn'
    have hnz := ar2 n d a.size p hd
    have ih' := ih (n + 1)
    have hd' := ar3 n d a.size p hd
    have hnle : n ≤ a.size - p := by exact Int.ofNat_le.1 hnz
    have rn := fun h : N < n => r1 n h hnle
    have e1 := wrap_add p n (Nat.le_trans hpn' hb)
    have e2 := wrap_next' p n (Nat.le_trans hpn' hb)
    have c1 : (p : Int) ≤ ((p + n : Nat) : Int) := Int.ofNat_le.2 (Nat.le_add_right p n)
    have c2 : ((p + n : Nat) : Int) ≤ (a.size : Int) := Int.ofNat_le.2 hpn'
    have c3 : (0 : Int) ≤ (p : Int) := Int.natCast_nonneg p
    have hn1 : 1 ≤ n + 1 := Nat.le_add_left 1 n
    clear h0 h1 r1 ih
    obtain ⟨v, hv⟩ : ∃ v, kindL ((a.data.toList.drop p).take n) = v := ⟨_, rfl⟩
    rw [hv] at hk rn
    have stp : ∀ k, backstepref02_Lex.l1 (k + 1) a out (p : Int) (b : Int) (n : Int) = (backstepref02_Kind.f k (a.extract ((p : Int)).toNat (((p + n : Nat) : Int)).toNat)).bind fun t135 => if t135 = 0 then backstepref02_Lex.l1 k a out (p : Int) (b : Int) ((n + 1 : Nat) : Int) else backstepref02_Lex.l1 k a out (p : Int) (n : Int) ((n + 1 : Nat) : Int) := by
      intro k
      simp only [backstepref02_Lex.l1]
      rw [hz, if_pos hnz, if_pos c3, e1, if_pos c1, if_pos c2, e2]
    refine Ev.step stp (Ev.bind hk ?_)
    by_cases hkz : v = 0
    · have g : n + 1 ≤ N ∨ b = N := by
        rcases hnb with h | h
        · rcases Nat.lt_or_ge n N with h2 | h2
          · exact .inl h2
          · have e : n = N := Nat.le_antisymm h h2
            have := r2 (by rw [← e]; exact Nat.one_le_iff_ne_zero.1 hn)
            rw [← e, hv, hkz] at this
            exact absurd this.1.symm this.2
        · exact .inr h
      exact Ev.congr (f := fun k => backstepref02_Lex.l1 k a out (p : Int) (b : Int) ((n + 1 : Nat) : Int)) (fun k => if_pos (by rw [hkz]; rfl)) (ih' b hn1 hd' g)
    · have g : n + 1 ≤ N ∨ n = N := by
        rcases Nat.lt_trichotomy n N with h2 | h2 | h2
        · exact .inl h2
        · exact .inr h2
        · exact absurd (rn h2) hkz
      exact Ev.congr (f := fun k => backstepref02_Lex.l1 k a out (p : Int) (n : Int) ((n + 1 : Nat) : Int)) (fun k => if_neg (fun h => hkz (Int.ofNat_eq_zero.1 h))) (ih' n hn1 hd' g)

/-- What the reference's Lex answers from offset p on, behind the tokens out. -/
def lexOut (out : List S47) (r : List Tk × Option Nat) : List S47 × Int × Int :=
  match r.2 with
  | none => (out ++ r.1.map s47, 0, 0)
  | some q => ([], (q : Int), 3)
theorem ref_loop (a : ByteArray) (hb : a.size ≤ 65536) (n : Nat) : ∀ (p : Nat) (out : List S47), a.size - p ≤ n → p ≤ a.size → out.length ≤ p → Ev (fun k => backstepref02_Lex.l0 k a out (p : Int)) (lexOut out (lexGo (a.data.toList.drop p) p)) := by
  induction n with
  | zero =>
    intro p out hn hp ho
    have e : a.data.toList.drop p = [] := List.drop_of_length_le (by rw [size_list]; omega)
    rw [e, lexGo_nil]
    refine Ev.step (f := fun _ => some (lexOut out ([], none))) (fun k => ?_) (Ev.now _)
    simp only [backstepref02_Lex.l0]
    rw [if_neg (by omega)]
    simp [lexOut]
  | succ n ih =>
    intro p out hn hp ho
    by_cases hlt : p < a.size
    · have hne : a.data.toList.drop p ≠ [] := fun e => by have := congrArg List.length e; rw [List.length_drop, size_list] at this; simp at this; omega
      have hle : (nextL (a.data.toList.drop p)).2 ≤ a.size - p := by have := nextL_le (a.data.toList.drop p); rw [List.length_drop, size_list] at this; exact this
      refine Ev.step (f := fun k => backstepref02_Lex.l1 k a out (p : Int) 0 1) (fun k => ?_) ?_
      · simp only [backstepref02_Lex.l0]; rw [if_pos (by omega)]
      · refine best_loop a hb p hlt out (by omega) _ _ rfl ?_ ?_ (a.size - p) 1 0 (by omega) (by omega) (by omega)
        · intro h0
          rw [lexGo_bad p hne h0]
          rfl
        · intro h0
          have h := ih (p + (nextL (a.data.toList.drop p)).2) (out ++ [s47 ⟨(nextL (a.data.toList.drop p)).1, (a.data.toList.drop p).take (nextL (a.data.toList.drop p)).2, p⟩]) (by omega) (by omega) (by rw [List.length_append, List.length_singleton]; omega)
          have e : lexOut (out ++ [s47 ⟨(nextL (a.data.toList.drop p)).1, (a.data.toList.drop p).take (nextL (a.data.toList.drop p)).2, p⟩]) (lexGo (a.data.toList.drop (p + (nextL (a.data.toList.drop p)).2)) (p + (nextL (a.data.toList.drop p)).2)) = lexOut out (lexGo (a.data.toList.drop p) p) := by
            rw [lexGo_ok p hne h0, List.drop_drop]
            unfold lexOut
            cases (lexGo (a.data.toList.drop (p + (nextL (a.data.toList.drop p)).2)) (p + (nextL (a.data.toList.drop p)).2)).2 <;> simp
          rw [e] at h
          exact h
    · have e : a.data.toList.drop p = [] := List.drop_of_length_le (by rw [size_list]; omega)
      rw [e, lexGo_nil]
      refine Ev.step (f := fun _ => some (lexOut out ([], none))) (fun k => ?_) (Ev.now _)
      simp only [backstepref02_Lex.l0]
      rw [if_neg (by omega)]
      simp [lexOut]

theorem same_loop (L : List Tk) (hb : L.length < 9223372036854775807) (d : Nat) : ∀ (k i : Nat), i + d = L.length → d < k → backsteplaw02_same.l0 k (L.map s33) (L.map s47) (i : Int) = some 1 := by
  induction d with
  | zero =>
    intro k i hi hk
    obtain ⟨k, rfl⟩ : ∃ m, k = m + 1 := ⟨k - 1, by omega⟩
    simp only [backsteplaw02_same.l0]
    rw [if_neg (by rw [List.length_map]; omega)]
  | succ d ih =>
    intro k i hi hk
    obtain ⟨k, rfl⟩ : ∃ m, k = m + 1 := ⟨k - 1, by omega⟩
    have hg : L[i]? = some L[i] := List.getElem?_eq_getElem (by omega)
    simp only [backsteplaw02_same.l0]
    rw [if_pos (by rw [List.length_map]; omega), if_pos (by omega), if_pos (by rw [List.length_map]; omega), rd33_get L i _ hg, rd47_get L i _ hg, wrap_next i (by omega)]
    rw [if_pos (show (s33 L[i]).f0 = (s47 L[i]).f0 from rfl), if_pos (show (s33 L[i]).f1.toList = (s47 L[i]).f1.toList from rfl), if_pos (show (s33 L[i]).f2 = (s47 L[i]).f2 from rfl)]
    exact ih k (i + 1) (by omega) (by omega)
theorem ev_same (L : List Tk) (hb : L.length < 9223372036854775807) : Ev (fun k => backsteplaw02_same.f k (L.map s33) (L.map s47)) 1 :=
  ⟨L.length + 1, fun k hk => by
    unfold backsteplaw02_same.f
    dsimp only
    rw [if_pos (by rw [List.length_map, List.length_map])]
    exact same_loop L hb L.length k 0 (by omega) (by omega)⟩

theorem PLexerTokens (a0 : ByteArray) : ∃ k, backsteplaw02_LexerTokens.f k a0 = some true := by
  unfold backsteplaw02_LexerTokens.f
  rw [awake_true]
  simp only [Option.bind_some, if_true]
  by_cases h : (a0.size : Int) > 120
  · refine ⟨0, ?_⟩; rw [if_pos h]
  simp only [if_neg h]
  have hl : a0.data.toList.length ≤ 120 := by rw [size_list]; omega
  have hr := ref_loop a0 (by omega) a0.size 0 [] (by omega) (by omega) (by simp)
  rw [List.drop_zero] at hr
  have hr' : Ev (fun k => backstepref02_Lex.f k a0) (lexOut [] (lexGo a0.data.toList 0)) :=
    Ev.congr (f := fun k => backstepref02_Lex.l0 k a0 [] ((0 : Nat) : Int)) (fun k => by unfold backstepref02_Lex.f; rw [if_neg (by omega)]; rfl) hr
  refine Ev.rounds ?_
  cases e : (lexGo a0.data.toList 0).2 with
  | none =>
    have hL := lexR_ok (by omega) e
    rw [lex_some hL]
    simp only [Option.bind_some]
    have e2 : lexOut [] (lexGo a0.data.toList 0) = ((lexGo a0.data.toList 0).1.map s47, 0, 0) := by unfold lexOut; rw [e]; simp
    rw [e2] at hr'
    refine Ev.bind hr' (Ev.bind (ev_same _ (by have := lexGo_len a0.data.toList 0; omega)) ?_)
    exact Ev.now true
  | some q =>
    have hL := lexR_bad (by omega) e
    rw [lex_some hL]
    simp only [Option.bind_some]
    have e2 : lexOut [] (lexGo a0.data.toList 0) = ([], (q : Int), 3) := by unfold lexOut; rw [e]
    rw [e2] at hr'
    refine Ev.bind hr' (Ev.bind (ev_same [] (by decide)) ?_)
    refine Ev.congr (f := fun _ => some true) (fun k => ?_) (Ev.now true)
    simp only
    rw [if_pos trivial, if_pos trivial]
    rfl

end Go.Proofs.YtapkfblkghoknaaDoor.PX
