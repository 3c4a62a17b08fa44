/-
  Plain Lean: the lexer's text on lists of bytes, and what the laws of layer 2 say of it. No program in sight.
-/
namespace Go.Proofs.YtapkfblkghoknaaDoor

abbrev Bs := List UInt8

def isLetter (c : UInt8) : Bool := decide (97 ≤ c.toNat) && decide (c.toNat ≤ 122)
def isDigit (c : UInt8) : Bool := decide (48 ≤ c.toNat) && decide (c.toNat ≤ 57)
def isSpace (c : UInt8) : Bool := c == 32 || c == 9 || c == 13 || c == 10
def isWord (c : UInt8) : Bool := isLetter c || isDigit c
def notLf (c : UInt8) : Bool := c != 10

/-- The signs in the program's order. -/
def signsL : List Bs := [[60, 61, 62], [58, 61], [43, 61], [45, 61], [94, 61], [61, 61], [33, 61], [60, 61], [62, 61], [38, 38], [124, 124], [43], [45], [42], [47], [37], [38], [124], [94], [33], [61], [60], [62], [40], [41], [123], [125], [91], [93], [59], [44]]
/-- The first sign that the text begins with: its length, else 0. -/
def signLen (s : Bs) : Nat := ((signsL.find? (fun x => x.isPrefixOf s)).map List.length).getD 0
def span (p : UInt8 → Bool) : Bs → Nat
  | [] => 0
  | c :: s => if p c then span p s + 1 else 0

/-- The kind and the length of the token at the head of s; (0, 0): none. -/
def nextL : Bs → Nat × Nat
  | [] => (0, 0)
  | c :: s =>
    if isLetter c then (1, span isWord (c :: s))
    else if isDigit c then (2, span isDigit (c :: s))
    else if isSpace c then (4, span isSpace (c :: s))
    else if c == 35 then (5, span notLf (c :: s))
    else if signLen (c :: s) = 0 then (0, 0) else (3, signLen (c :: s))

structure Tk where
  kind : Nat
  text : Bs
  pos : Nat
deriving DecidableEq

theorem span_le (p : UInt8 → Bool) (s : Bs) : span p s ≤ s.length := by
  induction s with
  | nil => simp [span]
  | cons c s ih => unfold span; split <;> simp <;> omega
theorem span_all (p : UInt8 → Bool) (s : Bs) : ∀ x ∈ s.take (span p s), p x = true := by
  induction s with
  | nil => simp [span]
  | cons c s ih =>
    unfold span
    split
    · rename_i h
      intro x hx
      rw [List.take_succ_cons] at hx
      rcases List.mem_cons.1 hx with rfl | hx
      · exact h
      · exact ih x hx
    · simp
theorem span_stop (p : UInt8 → Bool) (s : Bs) (m : Nat) (hm : span p s < m) (hl : m ≤ s.length) : (s.take m).all p = false := by
  induction s generalizing m with
  | nil => simp at hl; omega
  | cons c s ih =>
    obtain ⟨k, rfl⟩ : ∃ k, m = k + 1 := ⟨m - 1, by omega⟩
    rw [List.take_succ_cons, List.all_cons]
    unfold span at hm
    split at hm
    · rename_i h
      rw [h, Bool.true_and]
      exact ih k (by omega) (by simpa using hl)
    · rename_i h
      have : p c = false := by simpa using h
      rw [this, Bool.false_and]
theorem span_take (p : UInt8 → Bool) (s : Bs) : span p (s.take (span p s)) = span p s := by
  induction s with
  | nil => simp [span]
  | cons c s ih =>
    by_cases h : p c
    · simp only [span, if_pos h, List.take_succ_cons, ih]
    · simp [span, h]
theorem span_of_all (p : UInt8 → Bool) (s : Bs) (h : s.all p = true) : span p s = s.length := by
  induction s with
  | nil => simp [span]
  | cons c s ih =>
    rw [List.all_cons, Bool.and_eq_true] at h
    simp only [span, if_pos h.1, List.length_cons, ih h.2]
theorem span_append (p : UInt8 → Bool) (s t : Bs) (c : UInt8) (hc : p c = false) : span p (s ++ c :: t) = span p s := by
  induction s with
  | nil => simp [span, hc]
  | cons x s ih =>
    simp only [List.cons_append, span, ih]

theorem signLen_spec (s : Bs) : (signLen s = 0 ∧ ∀ x ∈ signsL, x.isPrefixOf s = false) ∨ ∃ l x r, signsL = l ++ x :: r ∧ x.isPrefixOf s = true ∧ signLen s = x.length ∧ ∀ y ∈ l, y.isPrefixOf s = false := by
  unfold signLen
  cases h : signsL.find? (fun x => x.isPrefixOf s) with
  | none =>
    left
    refine ⟨rfl, fun x hx => ?_⟩
    have := List.find?_eq_none.1 h x hx
    simpa only [Bool.not_eq_true] using this
  | some x =>
    right
    obtain ⟨hx, l, r, hl, hy⟩ := List.find?_eq_some_iff_append.1 h
    exact ⟨l, x, r, hl, hx, rfl, fun y hy' => by simpa only [Bool.not_eq_true', Bool.not_eq_eq_eq_not, Bool.not_true] using hy y hy'⟩
theorem signs_pos : ∀ x ∈ signsL, 0 < x.length := by decide
theorem signs_order : signsL.Pairwise (fun x y => ¬ (x.isPrefixOf y = true ∧ x.length < y.length)) := by decide
theorem signs_nolf : ∀ x ∈ signsL, ∀ c ∈ x, c ≠ 10 := by decide
theorem signs_head : ∀ x ∈ signsL, ∀ c ∈ x.head?, isLetter c = false ∧ isDigit c = false ∧ isSpace c = false ∧ (c == 35) = false := by decide

theorem signLen_le (s : Bs) : signLen s ≤ s.length := by
  rcases signLen_spec s with ⟨h, _⟩ | ⟨l, x, r, _, hx, h, _⟩
  · omega
  · rw [h]; exact (List.isPrefixOf_iff_prefix.1 hx).length_le
/-- Longest match: a sign at the head is no longer than the one that is found. -/
theorem signLen_max (s y : Bs) (hy : y ∈ signsL) (hp : y.isPrefixOf s = true) : y.length ≤ signLen s := by
  rcases signLen_spec s with ⟨_, h⟩ | ⟨l, x, r, hl, hx, h, hn⟩
  · rw [h y hy] at hp; cases hp
  · rw [h]
    rcases Nat.lt_or_ge x.length y.length with hlt | hge
    · exfalso
      have hxs := List.isPrefixOf_iff_prefix.1 hx
      have hys := List.isPrefixOf_iff_prefix.1 hp
      have hxy : x <+: y := List.prefix_of_prefix_length_le hxs hys (by omega)
      rw [hl] at hy
      rcases List.mem_append.1 hy with hy | hy
      · rw [hn y hy] at hp; cases hp
      · rcases List.mem_cons.1 hy with rfl | hy
        · omega
        · have ho := signs_order
          rw [hl, List.pairwise_append] at ho
          have := (List.pairwise_cons.1 ho.2.1).1 y hy
          exact this ⟨List.isPrefixOf_iff_prefix.2 hxy, hlt⟩
    · exact hge
theorem signLen_mem (s : Bs) (h : signLen s ≠ 0) : s.take (signLen s) ∈ signsL := by
  rcases signLen_spec s with ⟨h0, _⟩ | ⟨l, x, r, hl, hx, hlen, _⟩
  · exact absurd h0 h
  · rw [hlen]
    have hxs := List.isPrefixOf_iff_prefix.1 hx
    rw [← List.prefix_iff_eq_take.1 hxs, hl]
    simp
theorem signLen_self (x : Bs) (h : x ∈ signsL) : signLen x = x.length := by
  have h1 := signLen_max x x h (List.isPrefixOf_iff_prefix.2 (List.prefix_refl x))
  have h2 := signLen_le x
  omega
theorem signLen_append (s t : Bs) : signLen (s ++ 10 :: t) = signLen s := by
  have key : ∀ x ∈ signsL, x.isPrefixOf (s ++ 10 :: t) = x.isPrefixOf s := by
    intro x hx
    rw [Bool.eq_iff_iff, List.isPrefixOf_iff_prefix, List.isPrefixOf_iff_prefix]
    constructor
    · intro h
      rcases Nat.lt_or_ge s.length x.length with hlt | hge
      · exfalso
        obtain ⟨r, hr⟩ := h
        have : x[s.length]? = some 10 := by
          have e := congrArg (fun l : Bs => l[s.length]?) hr
          rw [List.getElem?_append_left hlt] at e
          rw [e]; simp
        exact signs_nolf x hx 10 (List.mem_of_getElem? this) rfl
      · exact List.prefix_of_prefix_length_le h (List.prefix_append s _) hge
    · intro h
      exact h.trans (List.prefix_append s _)
  unfold signLen
  have : signsL.find? (fun x => x.isPrefixOf (s ++ 10 :: t)) = signsL.find? (fun x => x.isPrefixOf s) := by
    have gen : ∀ l : List Bs, (∀ x ∈ l, x.isPrefixOf (s ++ 10 :: t) = x.isPrefixOf s) → l.find? (fun x => x.isPrefixOf (s ++ 10 :: t)) = l.find? (fun x => x.isPrefixOf s) := by
      intro l
      induction l with
      | nil => intro _; rfl
      | cons a l ih =>
        intro h
        rw [List.find?_cons, List.find?_cons, h a (by simp), ih (fun x hx => h x (by simp [hx]))]
    exact gen _ key
  rw [this]

theorem nextL_le (s : Bs) : (nextL s).2 ≤ s.length := by
  cases s with
  | nil => simp [nextL]
  | cons c s =>
    simp only [nextL]
    split
    · exact span_le _ (c :: s)
    · split
      · exact span_le _ (c :: s)
      · split
        · exact span_le _ (c :: s)
        · split
          · exact span_le _ (c :: s)
          · split
            · exact Nat.zero_le _
            · exact signLen_le (c :: s)

/-- The loop of Lex from offset p: the tokens, and the offset of the failure if there is one. -/
def lexGo (s : Bs) (p : Nat) : List Tk × Option Nat :=
  if _h : s = [] then ([], none)
  else
    if _h2 : (nextL s).2 = 0 then ([], some p)
    else
      let r := lexGo (s.drop (nextL s).2) (p + (nextL s).2)
      (⟨(nextL s).1, s.take (nextL s).2, p⟩ :: r.1, r.2)
termination_by s.length
decreasing_by
  have : s.length ≠ 0 := fun h0 => _h (List.length_eq_zero_iff.1 h0)
  simp only [List.length_drop]; omega

theorem lexGo_nil (p : Nat) : lexGo [] p = ([], none) := by rw [lexGo]; simp
theorem lexGo_bad {s : Bs} (p : Nat) (h : s ≠ []) (h2 : (nextL s).2 = 0) : lexGo s p = ([], some p) := by rw [lexGo, dif_neg h, dif_pos h2]
theorem lexGo_ok {s : Bs} (p : Nat) (h : s ≠ []) (h2 : (nextL s).2 ≠ 0) :
    lexGo s p = (⟨(nextL s).1, s.take (nextL s).2, p⟩ :: (lexGo (s.drop (nextL s).2) (p + (nextL s).2)).1, (lexGo (s.drop (nextL s).2) (p + (nextL s).2)).2) := by
  rw [lexGo, dif_neg h, dif_neg h2]

/-- Induction along the tokens. -/
theorem lex_induct {P : Bs → Prop} (h0 : P []) (h1 : ∀ s, s ≠ [] → (nextL s).2 = 0 → P s) (h2 : ∀ s, s ≠ [] → (nextL s).2 ≠ 0 → P (s.drop (nextL s).2) → P s) : ∀ s, P s := by
  intro s
  generalize hn : s.length = n
  induction n using Nat.strongRecOn generalizing s with
  | ind n ih =>
    by_cases hs : s = []
    · rw [hs]; exact h0
    · by_cases h : (nextL s).2 = 0
      · exact h1 s hs h
      · refine h2 s hs h (ih _ ?_ _ rfl)
        have : s.length ≠ 0 := fun h0 => hs (List.length_eq_zero_iff.1 h0)
        simp only [List.length_drop]; omega

def shift (d : Nat) (t : Tk) : Tk := { t with pos := t.pos + d }
theorem lexGo_shift (s : Bs) : ∀ p d, lexGo s (p + d) = ((lexGo s p).1.map (shift d), (lexGo s p).2.map (· + d)) := by
  refine lex_induct (P := fun s => ∀ p d, lexGo s (p + d) = ((lexGo s p).1.map (shift d), (lexGo s p).2.map (· + d))) ?_ ?_ ?_ s
  · intro p d; rw [lexGo_nil, lexGo_nil]; rfl
  · intro s hs h p d; rw [lexGo_bad _ hs h, lexGo_bad _ hs h]; rfl
  · intro s hs h ih p d
    rw [lexGo_ok _ hs h, lexGo_ok _ hs h, show p + d + (nextL s).2 = p + (nextL s).2 + d by omega, ih]
    rfl

theorem span_take_ge (p : UInt8 → Bool) (s : Bs) (m : Nat) (h : span p s ≤ m) : span p (s.take m) = span p s := by
  induction s generalizing m with
  | nil => simp [span]
  | cons c s ih =>
    by_cases hc : p c
    · simp only [span, if_pos hc] at h ⊢
      obtain ⟨k, rfl⟩ : ∃ k, m = k + 1 := ⟨m - 1, by omega⟩
      simp only [List.take_succ_cons, span, if_pos hc, ih k (by omega)]
    · cases m with
      | zero => simp [span, hc]
      | succ m => simp [span, hc]
theorem signLen_take_ge (s : Bs) (m : Nat) (h : signLen s ≤ m) : signLen (s.take m) = signLen s := by
  have h1 : signLen (s.take m) ≤ signLen s := by
    rcases signLen_spec (s.take m) with ⟨h0, _⟩ | ⟨l, x, r, hl, hx, hlen, _⟩
    · omega
    · rw [hlen]
      exact signLen_max s x (by rw [hl]; simp) (List.isPrefixOf_iff_prefix.2 ((List.isPrefixOf_iff_prefix.1 hx).trans (List.take_prefix m s)))
  by_cases h0 : signLen s = 0
  · omega
  · have hm := signLen_mem s h0
    have hle := signLen_le s
    have hp : s.take (signLen s) <+: s.take m := by
      have : s.take (signLen s) = (s.take m).take (signLen s) := by rw [List.take_take, Nat.min_eq_left h]
      rw [this]; exact List.take_prefix _ _
    have := signLen_max (s.take m) _ hm (List.isPrefixOf_iff_prefix.2 hp)
    rw [List.length_take] at this
    omega

/-- What lies behind the token says nothing of it. -/
theorem nextL_take_ge (s : Bs) (m : Nat) (h : (nextL s).2 ≤ m) (h0 : (nextL s).2 ≠ 0) : nextL (s.take m) = nextL s := by
  cases s with
  | nil => simp [nextL] at h0
  | cons c s =>
    obtain ⟨k, rfl⟩ : ∃ k, m = k + 1 := ⟨m - 1, by omega⟩
    have sp : ∀ p : UInt8 → Bool, span p (c :: s) ≤ k + 1 → span p (c :: s.take k) = span p (c :: s) := fun p hp => by
      have := span_take_ge p (c :: s) (k + 1) hp
      rwa [List.take_succ_cons] at this
    rw [List.take_succ_cons]
    revert h h0
    simp only [nextL]
    by_cases h1 : isLetter c = true
    · simp only [if_pos h1]; intro _ h; rw [sp _ h]
    · simp only [if_neg h1]
      by_cases h2 : isDigit c = true
      · simp only [if_pos h2]; intro _ h; rw [sp _ h]
      · simp only [if_neg h2]
        by_cases h3 : isSpace c = true
        · simp only [if_pos h3]; intro _ h; rw [sp _ h]
        · simp only [if_neg h3]
          by_cases h4 : (c == 35) = true
          · simp only [if_pos h4]; intro _ h; rw [sp _ h]
          · simp only [if_neg h4]
            by_cases h5 : signLen (c :: s) = 0
            · simp only [if_pos h5]; intro h0; exact absurd rfl h0
            · simp only [if_neg h5]
              intro _ h
              have := signLen_take_ge (c :: s) (k + 1) h
              rw [List.take_succ_cons] at this
              rw [this, if_neg h5]
theorem nextL_take (s : Bs) (h : (nextL s).2 ≠ 0) : nextL (s.take (nextL s).2) = nextL s := nextL_take_ge s _ (Nat.le_refl _) h

theorem lexGo_alone (s : Bs) (h : (nextL s).2 ≠ 0) : lexGo (s.take (nextL s).2) 0 = ([⟨(nextL s).1, s.take (nextL s).2, 0⟩], none) := by
  have hl : (s.take (nextL s).2).length = (nextL s).2 := by rw [List.length_take]; have := nextL_le s; omega
  have hne : s.take (nextL s).2 ≠ [] := fun e => by rw [e] at hl; simp at hl; omega
  have e := nextL_take s h
  rw [lexGo_ok 0 hne (by rw [e]; exact h), e, List.take_take, Nat.min_self, List.drop_of_length_le (by omega), lexGo_nil]

/-- Tokens of a text, each with the text it begins. -/
theorem lexGo_tok (s : Bs) (t : Tk) : ∀ p, t ∈ (lexGo s p).1 → ∃ u, (nextL u).2 ≠ 0 ∧ t.kind = (nextL u).1 ∧ t.text = u.take (nextL u).2 := by
  refine lex_induct (P := fun s => ∀ p, t ∈ (lexGo s p).1 → ∃ u, (nextL u).2 ≠ 0 ∧ t.kind = (nextL u).1 ∧ t.text = u.take (nextL u).2) ?_ ?_ ?_ s
  · intro p h; rw [lexGo_nil] at h; simp at h
  · intro s hs hb p h; rw [lexGo_bad _ hs hb] at h; simp at h
  · intro s hs hb ih p h
    rw [lexGo_ok _ hs hb] at h
    rcases List.mem_cons.1 h with rfl | h
    · exact ⟨s, hb, rfl, rfl⟩
    · exact ih _ h

/-- The texts joined, and the places. -/
def joinL (l : List Tk) : Bs := l.flatMap Tk.text
theorem lexGo_join (s : Bs) : ∀ p, (lexGo s p).2 = none → joinL (lexGo s p).1 = s := by
  refine lex_induct (P := fun s => ∀ p, (lexGo s p).2 = none → joinL (lexGo s p).1 = s) ?_ ?_ ?_ s
  · intro p _; rw [lexGo_nil]; rfl
  · intro s hs hb p h; rw [lexGo_bad _ hs hb] at h; simp at h
  · intro s hs hb ih p h
    rw [lexGo_ok _ hs hb] at h ⊢
    have := ih _ h
    simp only [joinL, List.flatMap_cons] at this ⊢
    rw [this, List.take_append_drop]
theorem lexGo_places (s : Bs) : ∀ p i t, (lexGo s p).1[i]? = some t → t.pos = p + (joinL ((lexGo s p).1.take i)).length ∧ t.text ≠ [] ∧ (s.drop (joinL ((lexGo s p).1.take i)).length).take t.text.length = t.text ∧ (joinL ((lexGo s p).1.take i)).length + t.text.length ≤ s.length ∧
    lexGo (s.drop (joinL ((lexGo s p).1.take i)).length) t.pos = ((lexGo s p).1.drop i, (lexGo s p).2) := by
  refine lex_induct (P := fun s => ∀ p i t, (lexGo s p).1[i]? = some t → t.pos = p + (joinL ((lexGo s p).1.take i)).length ∧ t.text ≠ [] ∧ (s.drop (joinL ((lexGo s p).1.take i)).length).take t.text.length = t.text ∧ (joinL ((lexGo s p).1.take i)).length + t.text.length ≤ s.length ∧
    lexGo (s.drop (joinL ((lexGo s p).1.take i)).length) t.pos = ((lexGo s p).1.drop i, (lexGo s p).2)) ?_ ?_ ?_ s
  · intro p i t h; rw [lexGo_nil] at h; simp at h
  · intro s hs hb p i t h; rw [lexGo_bad _ hs hb] at h; simp at h
  · intro s hs hb ih p i t h
    have hle := nextL_le s
    have hlt : (s.take (nextL s).2).length = (nextL s).2 := by rw [List.length_take]; omega
    cases i with
    | zero =>
      have e := lexGo_ok p hs hb
      rw [e] at h
      have h' : (⟨(nextL s).1, s.take (nextL s).2, p⟩ : Tk) = t := by simpa using h
      subst h'
      refine ⟨by simp [joinL], fun e => by simp only at e; rw [e] at hlt; simp at hlt; omega, ?_, ?_, ?_⟩
      · simp only [List.take_zero, joinL, List.flatMap_nil, List.length_nil, List.drop_zero, hlt]
      · simp only [List.take_zero, joinL, List.flatMap_nil, List.length_nil, hlt]; omega
      · simp only [List.take_zero, joinL, List.flatMap_nil, List.length_nil, List.drop_zero]
    | succ i =>
      have e := lexGo_ok p hs hb
      rw [e] at h ⊢
      obtain ⟨i1, i2, i3, i4, i5⟩ := ih (p + (nextL s).2) i t (by simpa using h)
      have hj : (joinL ((⟨(nextL s).1, s.take (nextL s).2, p⟩ :: (lexGo (s.drop (nextL s).2) (p + (nextL s).2)).1 : List Tk).take (i + 1))).length = (nextL s).2 + (joinL ((lexGo (s.drop (nextL s).2) (p + (nextL s).2)).1.take i)).length := by
        rw [List.take_succ_cons]
        simp only [joinL, List.flatMap_cons, List.length_append, hlt]
      dsimp only
      rw [hj]
      rw [List.drop_drop] at i3 i5
      rw [List.length_drop] at i4
      exact ⟨by omega, i2, i3, by omega, by simpa using i5⟩

/-- Where Lex fails: what lies ahead is tokens, nothing begins there. -/
theorem lexGo_err (s : Bs) : ∀ p q, (lexGo s p).2 = some q → ∃ k, q = p + k ∧ k < s.length ∧ joinL (lexGo s p).1 = s.take k ∧ (nextL (s.drop k)).2 = 0 := by
  refine lex_induct (P := fun s => ∀ p q, (lexGo s p).2 = some q → ∃ k, q = p + k ∧ k < s.length ∧ joinL (lexGo s p).1 = s.take k ∧ (nextL (s.drop k)).2 = 0) ?_ ?_ ?_ s
  · intro p q h; rw [lexGo_nil] at h; simp at h
  · intro s hs hb p q h
    rw [lexGo_bad _ hs hb] at h ⊢
    refine ⟨0, ?_, List.length_pos_iff.2 hs, rfl, hb⟩
    simpa using h.symm
  · intro s hs hb ih p q h
    rw [lexGo_ok _ hs hb] at h ⊢
    obtain ⟨k, h1, h2, h3, h4⟩ := ih _ _ h
    rw [List.length_drop] at h2
    rw [List.drop_drop] at h4
    refine ⟨(nextL s).2 + k, by omega, by omega, ?_, h4⟩
    simp only [joinL, List.flatMap_cons] at h3 ⊢
    rw [h3, List.take_add]

/-- Reading on: if s is cut where a token begins, the tokens ahead stay. -/
theorem lexGo_take (s : Bs) : ∀ p q, (lexGo s p).2 = some q → lexGo (s.take (q - p)) p = ((lexGo s p).1, none) := by
  refine lex_induct (P := fun s => ∀ p q, (lexGo s p).2 = some q → lexGo (s.take (q - p)) p = ((lexGo s p).1, none)) ?_ ?_ ?_ s
  · intro p q h; rw [lexGo_nil] at h; simp at h
  · intro s hs hb p q h
    rw [lexGo_bad _ hs hb] at h ⊢
    have : p = q := by simpa using h
    subst this
    rw [Nat.sub_self, List.take_zero, lexGo_nil]
  · intro s hs hb ih p q h
    have e := lexGo_ok p hs hb
    rw [e] at h ⊢
    obtain ⟨k, h1, h2, _, _⟩ := lexGo_err _ _ _ h
    have hle := nextL_le s
    rw [List.length_drop] at h2
    have hlt : (s.take (q - p)).length = q - p := by rw [List.length_take]; omega
    have hne : s.take (q - p) ≠ [] := fun e => by rw [e] at hlt; simp at hlt; omega
    have hn := nextL_take_ge s (q - p) (by omega) hb
    have hd : (s.take (q - p)).drop (nextL s).2 = (s.drop (nextL s).2).take (q - (p + (nextL s).2)) := by rw [List.drop_take]; congr 1; omega
    rw [lexGo_ok p hne (by rw [hn]; exact hb), hn, hd, ih _ _ h, List.take_take, Nat.min_eq_left (by omega)]

/-! ### Lines -/
def solidT (t : Tk) : Bool := t.kind != 4 && t.kind != 5
/-- The solid tokens, and the place of the failure. -/
def solidGo (s : Bs) (p : Nat) : List Tk × Option Nat := ((lexGo s p).1.filter solidT, (lexGo s p).2)

theorem isSpace_not (c : UInt8) (h : isSpace c = true) : isLetter c = false ∧ isDigit c = false := by
  simp only [isSpace, Bool.or_eq_true, beq_iff_eq] at h
  rcases h with ((rfl | rfl) | rfl) | rfl <;> decide
theorem nextL_space (c : UInt8) (s : Bs) (h : isSpace c = true) : nextL (c :: s) = (4, span isSpace s + 1) := by
  obtain ⟨h1, h2⟩ := isSpace_not c h
  simp only [nextL, h1, h2, h, span]
  rfl
theorem solidGo_skip (c : UInt8) (s : Bs) (p : Nat) (h : isSpace c = true) : solidGo (c :: s) p = solidGo s (p + 1) := by
  have hn := nextL_space c s h
  have e := lexGo_ok (s := c :: s) p (by simp) (by rw [hn]; simp)
  rw [hn] at e
  simp only [List.drop_succ_cons] at e
  unfold solidGo
  rw [e]
  cases s with
  | nil =>
    simp only [span, List.drop_nil, Nat.zero_add, lexGo_nil]
    simp [solidT]
  | cons d s =>
    by_cases hd : isSpace d = true
    · have hn2 := nextL_space d s hd
      have e2 := lexGo_ok (s := d :: s) (p + 1) (by simp) (by rw [hn2]; simp)
      rw [hn2] at e2
      simp only [List.drop_succ_cons] at e2
      have hsp : span isSpace (d :: s) = span isSpace s + 1 := by simp only [span, if_pos hd]
      rw [e2, hsp, List.drop_succ_cons, show p + (span isSpace s + 1 + 1) = p + 1 + (span isSpace s + 1) by omega]
      simp [solidT]
    · have hsp : span isSpace (d :: s) = 0 := by simp only [span, if_neg hd]
      rw [hsp, List.drop_zero]
      simp [solidT]

theorem nextL_line (s t : Bs) (hs : s ≠ []) (h : isSpace (s.headD 0) = false) : nextL (s ++ 10 :: t) = nextL s := by
  cases s with
  | nil => exact absurd rfl hs
  | cons c s =>
    have sp : ∀ p : UInt8 → Bool, p 10 = false → span p (c :: (s ++ 10 :: t)) = span p (c :: s) := fun p hp => span_append p (c :: s) t 10 hp
    have sg : signLen (c :: (s ++ 10 :: t)) = signLen (c :: s) := signLen_append (c :: s) t
    have h3 : isSpace c = false := h
    rw [List.cons_append]
    simp only [nextL, h3, sg, sp isWord (by decide), sp isDigit (by decide), sp notLf (by decide)]
    rfl

/-- LINES: a text, a line feed, another text. -/
theorem solidGo_line (b : Bs) (a : Bs) : ∀ p, solidGo (a ++ 10 :: b) p =
    if (lexGo a p).2 = none then ((solidGo a p).1 ++ (solidGo b (p + a.length + 1)).1, (solidGo b (p + a.length + 1)).2) else solidGo a p := by
  generalize hn : a.length = n
  induction n using Nat.strongRecOn generalizing a with
  | ind n ih =>
    intro p
    cases a with
    | nil =>
      rw [List.nil_append, solidGo_skip 10 b p (by decide), lexGo_nil, if_pos rfl]
      have : n = 0 := by simpa using hn.symm
      subst this
      unfold solidGo
      rw [lexGo_nil]
      rfl
    | cons c a =>
      by_cases hc : isSpace c = true
      · have i := ih a.length (by rw [← hn]; simp) a rfl (p + 1)
        have s1 := solidGo_skip c (a ++ 10 :: b) p hc
        have s2 := solidGo_skip c a p hc
        have s3 : (lexGo (c :: a) p).2 = (lexGo a (p + 1)).2 := by have h := congrArg Prod.snd s2; exact h
        rw [List.cons_append, s1, i, s2, s3]
        have : p + 1 + a.length + 1 = p + n + 1 := by rw [← hn]; simp; omega
        rw [this]
      · have hc' : isSpace c = false := by simpa using hc
        have hl := nextL_line (c :: a) b (by simp) hc'
        by_cases hz : (nextL (c :: a)).2 = 0
        · have e1 := lexGo_bad (s := c :: a) p (by simp) hz
          have e2 := lexGo_bad (s := (c :: a) ++ 10 :: b) p (by simp) (by rw [hl]; exact hz)
          unfold solidGo
          rw [e2, e1]
          simp
        · have e1 := lexGo_ok (s := c :: a) p (by simp) hz
          have e2 := lexGo_ok (s := (c :: a) ++ 10 :: b) p (by simp) (by rw [hl]; exact hz)
          have hle := nextL_le (c :: a)
          rw [hl] at e2
          have hd : ((c :: a) ++ 10 :: b).drop (nextL (c :: a)).2 = (c :: a).drop (nextL (c :: a)).2 ++ 10 :: b := List.drop_append_of_le_length hle
          have ht : ((c :: a) ++ 10 :: b).take (nextL (c :: a)).2 = (c :: a).take (nextL (c :: a)).2 := List.take_append_of_le_length hle
          rw [hd, ht] at e2
          have hdl : ((c :: a).drop (nextL (c :: a)).2).length = n - (nextL (c :: a)).2 := by rw [List.length_drop, hn]
          have i := ih _ (by rw [hdl]; omega) _ rfl (p + (nextL (c :: a)).2)
          have hp : p + (nextL (c :: a)).2 + ((c :: a).drop (nextL (c :: a)).2).length + 1 = p + n + 1 := by rw [hdl]; omega
          rw [hp] at i
          have i1 := congrArg Prod.fst i
          have i2 := congrArg Prod.snd i
          unfold solidGo at i1 i2 ⊢
          rw [e2, e1]
          dsimp only at i1 i2 ⊢
          rw [i2]
          by_cases hnone : (lexGo ((c :: a).drop (nextL (c :: a)).2) (p + (nextL (c :: a)).2)).2 = none
          · rw [if_pos hnone] at i1 ⊢
            rw [if_pos hnone]
            simp only [List.filter_cons, i1]
            split <;> simp
          · rw [if_neg hnone] at i1 ⊢
            rw [if_neg hnone]
            simp only [List.filter_cons, i1]

/-! ### The reference -/
def kwL : List Bs := [[105, 110, 116], [97, 114, 114, 97, 121], [115, 116, 97, 99, 107], [112, 114, 111, 99], [109, 97, 105, 110], [112, 117, 115, 104], [112, 111, 112], [114, 101, 97, 100], [117, 110, 114, 101, 97, 100], [119, 114, 105, 116, 101], [117, 110, 119, 114, 105, 116, 101], [99, 97, 108, 108], [117, 110, 99, 97, 108, 108], [105, 102], [101, 108, 115, 101], [102, 105], [102, 114, 111, 109], [108, 111, 111, 112], [117, 110, 116, 105, 108], [108, 111, 99, 97, 108], [100, 101, 108, 111, 99, 97, 108], [116, 111, 112], [115, 105, 122, 101]]
def kindL (u : Bs) : Nat :=
  if u = [] then 0
  else if isLetter (u.headD 0) && u.all isWord then 1
  else if u.all isDigit then 2
  else if u ∈ signsL then 3
  else if u.all isSpace then 4
  else if u.headD 0 == 35 && u.all notLf then 5
  else 0

theorem letter_not {c : UInt8} (h : isLetter c = true) : isDigit c = false ∧ isSpace c = false ∧ (c == 35) = false := by
  simp only [isLetter, Bool.and_eq_true, decide_eq_true_eq] at h
  refine ⟨?_, ?_, ?_⟩
  · simp only [isDigit, Bool.and_eq_false_iff, decide_eq_false_iff_not]; omega
  · simp only [isSpace, Bool.or_eq_false_iff, beq_eq_false_iff_ne]
    refine ⟨⟨⟨?_, ?_⟩, ?_⟩, ?_⟩ <;> (rintro rfl; exact absurd h (by decide))
  · rw [beq_eq_false_iff_ne]; rintro rfl; exact absurd h (by decide)
theorem digit_not {c : UInt8} (h : isDigit c = true) : isLetter c = false ∧ isSpace c = false ∧ (c == 35) = false := by
  simp only [isDigit, Bool.and_eq_true, decide_eq_true_eq] at h
  refine ⟨?_, ?_, ?_⟩
  · simp only [isLetter, Bool.and_eq_false_iff, decide_eq_false_iff_not]; omega
  · simp only [isSpace, Bool.or_eq_false_iff, beq_eq_false_iff_ne]
    refine ⟨⟨⟨?_, ?_⟩, ?_⟩, ?_⟩ <;> (rintro rfl; exact absurd h (by decide))
  · rw [beq_eq_false_iff_ne]; rintro rfl; exact absurd h (by decide)
theorem space_not {c : UInt8} (h : isSpace c = true) : isLetter c = false ∧ isDigit c = false ∧ (c == 35) = false := by
  obtain ⟨h1, h2⟩ := isSpace_not c h
  refine ⟨h1, h2, ?_⟩
  rw [beq_eq_false_iff_ne]; rintro rfl; exact absurd h (by decide)
theorem sign_head {u : Bs} (h : u ∈ signsL) : u ≠ [] ∧ isLetter (u.headD 0) = false ∧ isDigit (u.headD 0) = false ∧ isSpace (u.headD 0) = false ∧ (u.headD 0 == 35) = false := by
  have hp := signs_pos u h
  have hh := signs_head u h
  cases u with
  | nil => simp at hp
  | cons c u => exact ⟨by simp, hh c (by simp)⟩

theorem span_all_take (p : UInt8 → Bool) (s : Bs) (m : Nat) (h : m ≤ span p s) : (s.take m).all p = true := by
  rw [List.all_eq_true]
  intro x hx
  have : s.take m <+: s.take (span p s) := by
    have e : s.take m = (s.take (span p s)).take m := by rw [List.take_take, Nat.min_eq_left h]
    rw [e]; exact List.take_prefix _ _
  exact span_all p s x (this.subset hx)

/-- At the head of a text: the token that Lex takes has the kind that the reference sees, and no longer piece is a token. -/
theorem nextL_ref (s : Bs) (hs : s ≠ []) :
    (∀ m, (nextL s).2 < m → m ≤ s.length → kindL (s.take m) = 0) ∧ ((nextL s).2 ≠ 0 → kindL (s.take (nextL s).2) = (nextL s).1 ∧ (nextL s).1 ≠ 0) := by
  cases s with
  | nil => exact absurd rfl hs
  | cons c s =>
    -- what the reference sees of a piece of m bytes
    have hd : ∀ m, 0 < m → (((c :: s).take m).headD 0 = c ∧ (c :: s).take m ≠ []) := fun m hm => by
      obtain ⟨k, rfl⟩ : ∃ k, m = k + 1 := ⟨m - 1, by omega⟩
      rw [List.take_succ_cons]; exact ⟨rfl, by simp⟩
    have hc0 : ∀ (p : UInt8 → Bool) m, 0 < m → p c = false → ((c :: s).take m).all p = false := fun p m hm hp => by
      obtain ⟨k, rfl⟩ : ∃ k, m = k + 1 := ⟨m - 1, by omega⟩
      rw [List.take_succ_cons, List.all_cons, hp, Bool.false_and]
    have nosign : ∀ m, 0 < m → (isLetter c = true ∨ isDigit c = true ∨ isSpace c = true ∨ (c == 35) = true) → (c :: s).take m ∉ signsL := fun m hm h hmem => by
      obtain ⟨_, a, b, d, e⟩ := sign_head hmem
      rw [(hd m hm).1] at a b d e
      rcases h with h | h | h | h
      · rw [h] at a; cases a
      · rw [h] at b; cases b
      · rw [h] at d; cases d
      · rw [h] at e; cases e
    by_cases h1 : isLetter c = true
    · have hn : nextL (c :: s) = (1, span isWord (c :: s)) := by simp only [nextL, if_pos h1]
      obtain ⟨hdg, hsp, hcm⟩ := letter_not h1
      rw [hn]
      refine ⟨fun m hm hl => ?_, fun h0 => ⟨?_, by simp⟩⟩
      · have hm0 : 0 < m := by omega
        unfold kindL
        rw [if_neg (hd m hm0).2, (hd m hm0).1, span_stop isWord (c :: s) m hm hl, Bool.and_false, if_neg (by simp), hc0 isDigit m hm0 hdg, if_neg (by simp), if_neg (nosign m hm0 (.inl h1)), hc0 isSpace m hm0 hsp, if_neg (by simp), hcm, Bool.false_and, if_neg (by simp)]
      · have hm0 : 0 < span isWord (c :: s) := by simp only at h0; omega
        unfold kindL
        dsimp only
        rw [if_neg (hd _ hm0).2, (hd _ hm0).1, h1, span_all_take isWord (c :: s) _ (Nat.le_refl _), Bool.true_and, if_pos rfl]
    by_cases h2 : isDigit c = true
    · have hn : nextL (c :: s) = (2, span isDigit (c :: s)) := by simp only [nextL, if_neg h1, if_pos h2]
      obtain ⟨hlt, hsp, hcm⟩ := digit_not h2
      rw [hn]
      refine ⟨fun m hm hl => ?_, fun h0 => ⟨?_, by simp⟩⟩
      · have hm0 : 0 < m := by omega
        unfold kindL
        rw [if_neg (hd m hm0).2, (hd m hm0).1, hlt, Bool.false_and, if_neg (by simp), span_stop isDigit (c :: s) m hm hl, if_neg (by simp), if_neg (nosign m hm0 (.inr (.inl h2))), hc0 isSpace m hm0 hsp, if_neg (by simp), hcm, Bool.false_and, if_neg (by simp)]
      · have hm0 : 0 < span isDigit (c :: s) := by simp only at h0; omega
        unfold kindL
        dsimp only
        rw [if_neg (hd _ hm0).2, (hd _ hm0).1, hlt, Bool.false_and, if_neg (by simp), span_all_take isDigit (c :: s) _ (Nat.le_refl _), if_pos rfl]
    by_cases h3 : isSpace c = true
    · have hn : nextL (c :: s) = (4, span isSpace (c :: s)) := by simp only [nextL, if_neg h1, if_neg h2, if_pos h3]
      obtain ⟨hlt, hdg, hcm⟩ := space_not h3
      rw [hn]
      refine ⟨fun m hm hl => ?_, fun h0 => ⟨?_, by simp⟩⟩
      · have hm0 : 0 < m := by omega
        unfold kindL
        rw [if_neg (hd m hm0).2, (hd m hm0).1, hlt, Bool.false_and, if_neg (by simp), hc0 isDigit m hm0 hdg, if_neg (by simp), if_neg (nosign m hm0 (.inr (.inr (.inl h3)))), span_stop isSpace (c :: s) m hm hl, if_neg (by simp), hcm, Bool.false_and, if_neg (by simp)]
      · have hm0 : 0 < span isSpace (c :: s) := by simp only at h0; omega
        unfold kindL
        dsimp only
        rw [if_neg (hd _ hm0).2, (hd _ hm0).1, hlt, Bool.false_and, if_neg (by simp), hc0 isDigit _ hm0 hdg, if_neg (by simp), if_neg (nosign _ hm0 (.inr (.inr (.inl h3)))), span_all_take isSpace (c :: s) _ (Nat.le_refl _), if_pos rfl]
    have f1 : isLetter c = false := by simpa using h1
    have f2 : isDigit c = false := by simpa using h2
    have f3 : isSpace c = false := by simpa using h3
    by_cases h4 : (c == 35) = true
    · have hn : nextL (c :: s) = (5, span notLf (c :: s)) := by simp only [nextL, if_neg h1, if_neg h2, if_neg h3, if_pos h4]
      rw [hn]
      refine ⟨fun m hm hl => ?_, fun h0 => ⟨?_, by simp⟩⟩
      · have hm0 : 0 < m := by omega
        unfold kindL
        rw [if_neg (hd m hm0).2, (hd m hm0).1, f1, Bool.false_and, if_neg (by simp), hc0 isDigit m hm0 f2, if_neg (by simp), if_neg (nosign m hm0 (.inr (.inr (.inr h4)))), hc0 isSpace m hm0 f3, if_neg (by simp), span_stop notLf (c :: s) m hm hl, Bool.and_false, if_neg (by simp)]
      · have hm0 : 0 < span notLf (c :: s) := by simp only at h0; omega
        unfold kindL
        dsimp only
        rw [if_neg (hd _ hm0).2, (hd _ hm0).1, f1, Bool.false_and, if_neg (by simp), hc0 isDigit _ hm0 f2, if_neg (by simp), if_neg (nosign _ hm0 (.inr (.inr (.inr h4)))), hc0 isSpace _ hm0 f3, if_neg (by simp), h4, span_all_take notLf (c :: s) _ (Nat.le_refl _), Bool.true_and, if_pos rfl]
    have f4 : (c == 35) = false := by simpa using h4
    have key : ∀ m, 0 < m → kindL ((c :: s).take m) = if (c :: s).take m ∈ signsL then 3 else 0 := fun m hm0 => by
      unfold kindL
      rw [if_neg (hd m hm0).2, (hd m hm0).1, f1, Bool.false_and, if_neg (by simp), hc0 isDigit m hm0 f2, if_neg (by simp)]
      by_cases hmem : (c :: s).take m ∈ signsL
      · rw [if_pos hmem, if_pos hmem]
      · rw [if_neg hmem, if_neg hmem, hc0 isSpace m hm0 f3, if_neg (by simp), f4, Bool.false_and, if_neg (by simp)]
    have big : ∀ m, signLen (c :: s) < m → m ≤ (c :: s).length → (c :: s).take m ∉ signsL := fun m hm hl hmem => by
      have := signLen_max (c :: s) _ hmem (List.isPrefixOf_iff_prefix.2 (List.take_prefix _ _))
      rw [List.length_take] at this
      omega
    by_cases h5 : signLen (c :: s) = 0
    · have hn : nextL (c :: s) = (0, 0) := by simp only [nextL, if_neg h1, if_neg h2, if_neg h3, if_neg h4, if_pos h5]
      rw [hn]
      refine ⟨fun m hm hl => ?_, fun h0 => absurd rfl h0⟩
      have hm0 : 0 < m := by simpa using hm
      rw [key m hm0, if_neg (big m (by omega) hl)]
    · have hn : nextL (c :: s) = (3, signLen (c :: s)) := by simp only [nextL, if_neg h1, if_neg h2, if_neg h3, if_neg h4, if_neg h5]
      rw [hn]
      refine ⟨fun m hm hl => ?_, fun _ => ⟨?_, by simp⟩⟩
      · have hm' : signLen (c :: s) < m := hm
        rw [key m (by omega), if_neg (big m hm' hl)]
      · dsimp only
        rw [key _ (by omega), if_pos (signLen_mem _ h5)]

/-- A name is a single word. -/
theorem name_word (s : Bs) (hs : s ≠ []) : (nextL s = (1, s.length)) ↔ kindL s = 1 := by
  obtain ⟨r1, r2⟩ := nextL_ref s hs
  have hle := nextL_le s
  have hp : s.length ≠ 0 := fun e => hs (List.length_eq_zero_iff.1 e)
  constructor
  · intro h
    have := (r2 (by rw [h]; exact hp)).1
    rw [h] at this
    simpa using this
  · intro h
    rcases Nat.lt_or_ge (nextL s).2 s.length with hlt | hge
    · have := r1 s.length hlt (Nat.le_refl _)
      rw [List.take_length, h] at this
      cases this
    · have e : (nextL s).2 = s.length := by omega
      have := (r2 (by rw [e]; exact hp)).1
      rw [e, List.take_length, h] at this
      exact Prod.ext this.symm e
theorem kw_word : ∀ x ∈ kwL, nextL x = (1, x.length) ∧ x ≠ [] := by decide

end Go.Proofs.YtapkfblkghoknaaDoor
