/-
  The law LexerLines where both texts are read: the loop's rounds.
-/
import Derived.Test.YtapkfblkghoknaaDoorHandLines
namespace Go.Proofs.YtapkfblkghoknaaDoor.PX
open Go.RowKit Go.Proofs.YtapkfblkghoknaaDoorW.PrintWords Go.Proofs.YtapkfblkghoknaaDoorW.PrintLast Go.Proofs.YtapkfblkghoknaaDoorW.PrintMore

theorem cell_old {w : World} {p : Addr} {x : Value} (h : w.cell? p = some x) (o : Obj) : (w.alloc o).cell? p = some x := (World.cell?_of_block (w := w) (Below.heap_alloc w o p.block (World.block_lt_of_cell? w p h))).trans h

set_option maxHeartbeats 1200000 in
set_option maxRecDepth 100000 in
theorem lines_main (a b : ByteArray) (w : World) (ht : Tab w) (ha : a.size ≤ 200) (hb : b.size ≤ 200) (TA TB TZ : List Tk) (h1 : lexR a.data.toList = (TA, 0, 0)) (h2 : lexR b.data.toList = (TB, 0, 0))
    (z0 : ByteArray) (hz0 : z0 = a ++ (⟨#[10]⟩ : ByteArray) ++ b) (h3 : lexR z0.data.toList = (TZ, 0, 0)) (la : TA.length ≤ 401) (lb : TB.length ≤ 401) (lz : TZ.length ≤ 401)
    (hz : TZ.filter solidT = TA.filter solidT ++ (TB.filter solidT).map (shift (a.size + 1))) (hp : ∀ i, i < (TB.filter solidT).length → 0 ≤ (rd_T33 ((TB.filter solidT).map s33) (i : Int)).f2 ∧ (rd_T33 ((TB.filter solidT).map s33) (i : Int)).f2 ≤ 65536) :
    Calls Tryd.prog 7 #[.string a, .string b] w fun e w' => e = .returned (.bool true) ∧ Below w.heap.size w w' := by
  have HT := Aside0.mk ht; clear ht
  have HZ0 := Aside0.mk hz0; clear hz0
  have H1 := Aside0.mk (lex_of h1); clear h1
  have H2 := Aside0.mk (lex_of h2); clear h2
  have H3 := Aside0.mk (lex_of h3); clear h3
  have S1 := Aside0.mk (solid_s33 TA (by omega))
  have S2 := Aside0.mk (solid_s33 TB (by omega))
  have S3 := Aside0.mk (solid_s33 TZ (by omega))
  have ha' : decide ((200 : Int) < (a.size : Int)) = false := by rw [decide_eq_false_iff_not]; omega
  have hb' : decide ((200 : Int) < (b.size : Int)) = false := by rw [decide_eq_false_iff_not]; omega
  have a0 : 0 ≤ (a.size : Int) := by omega
  have a1 : (a.size : Int) ≤ 200 := by omega
  have hul : (TA.filter solidT).length ≤ 401 := Nat.le_trans (List.length_filter_le _ _) la
  have hvl : (TB.filter solidT).length ≤ 401 := Nat.le_trans (List.length_filter_le _ _) lb
  have sm1 : (9223372036854775807 < a.size + 1) = False := eq_false (by omega)
  have sm2 : (9223372036854775807 < a.size + 1 + b.size) = False := eq_false (by omega)
  clear ha hb la lb lz
  obtain ⟨U, hU⟩ : ∃ U, U = TA.filter solidT := ⟨_, rfl⟩
  obtain ⟨V, hV⟩ : ∃ V, V = TB.filter solidT := ⟨_, rfl⟩
  obtain ⟨Z, hZ⟩ : ∃ Z, Z = TZ.filter solidT := ⟨_, rfl⟩
  rw [← hU] at S1 hul hz
  rw [← hV] at S2 hvl hz hp
  rw [← hZ] at S3 hz
  clear hU hV hZ
  have hzl : (Z.map s33).length = (U.map s33).length + (V.map s33).length := by rw [hz]; simp
  have HS := Aside0.mk (fun i hi => seam U V Z (a.size + 1) i hz hi)
  have HZL := Aside0.mk hzl
  have HP := Aside0.mk hp; clear hp hz
  have hul' : (U.map s33).length ≤ 401 := by rw [List.length_map]; exact hul
  have hvl' : (V.map s33).length ≤ 401 := by rw [List.length_map]; exact hvl
  have eul : Aside0 ((U.map s33).length = U.length) := ⟨List.length_map _⟩
  have evl : Aside0 ((V.map s33).length = V.length) := ⟨List.length_map _⟩
  have ezl : Aside0 ((Z.map s33).length = Z.length) := ⟨List.length_map _⟩
  obtain ⟨u, hu⟩ : ∃ u, u = U.map s33 := ⟨_, rfl⟩
  obtain ⟨v, hv⟩ : ∃ v, v = V.map s33 := ⟨_, rfl⟩
  obtain ⟨z, hzz⟩ : ∃ z, z = Z.map s33 := ⟨_, rfl⟩
  rw [← hu] at S1 HS HZL hul' eul hzl
  rw [← hv] at S2 HS HZL hvl' HP evl hzl
  rw [← hzz] at S3 HS HZL ezl hzl
  clear hu hv hzz hul hvl
  have e0 : ((z.length : Int) == ((u.length : Int) + (v.length : Int))) = true := by rw [beq_iff_eq]; omega
  have e1 : ((z.length : Int) != ((u.length : Int) + (v.length : Int))) = false := by rw [bne_eq_false_iff_eq]; omega
  have u1 : (u.length : Int) ≤ 401 := by omega
  have v1 : (v.length : Int) ≤ 401 := by omega
  obtain ⟨ta, hta⟩ : ∃ ta, ta = TA.map s33 := ⟨_, rfl⟩
  obtain ⟨tb, htb⟩ : ∃ tb, tb = TB.map s33 := ⟨_, rfl⟩
  obtain ⟨tz, htz⟩ : ∃ tz, tz = TZ.map s33 := ⟨_, rfl⟩
  rw [← hta] at H1 S1
  rw [← htb] at H2 S2
  rw [← htz] at H3 S3
  clear hta htb htz
  have HUL := Aside0.mk hul'
  have HVL := Aside0.mk hvl'
  clear hzl hul' hvl'
  go_enter Tryd.func7, Tryd.ntmps7
  go_wp2_with (fail)
  refine (backsteplaw02_awake.calls true w HT.out awake_true).mono ?_
  rintro e w1 ⟨rfl, hb1⟩
  have HB1 := Aside0.mk hb1; clear hb1
  go_wp2_with (fail)
  refine (lexer_Lex.calls a _ _ _ w1 (Tab.below HT.out HB1.out) H1.out).mono ?_
  rintro e w2 ⟨v1, rfl, hr1, hb2⟩
  have HB2 := Aside0.mk (HB1.out.trans (hb2.mono HB1.out.size)); clear hb2
  obtain ⟨A1, c1, rfl, l1, k1⟩ := Kd.R_reads hr1
  have K1 := Aside0.mk k1
  have L1 := Aside0.mk l1
  clear hr1 k1 l1
  go_wp2_with (fail)
  refine (lexer_Lex.calls b _ _ _ w2 (Tab.below HT.out HB2.out) H2.out).mono ?_
  rintro e w3 ⟨v2, rfl, hr2, hb3⟩
  have HB3 := Aside0.mk (HB2.out.trans (hb3.mono HB2.out.size))
  replace K1 := Aside0.mk (Kd.C_below K1.out hb3)
  clear hb3
  obtain ⟨A2, c2, rfl, l2, k2⟩ := Kd.R_reads hr2
  have K2 := Aside0.mk k2
  have L2 := Aside0.mk l2
  clear hr2 k2 l2
  go_wp2_with (fail)
  rw [← HZ0.out]
  refine (lexer_Lex.calls z0 _ _ _ w3 (Tab.below HT.out HB3.out) H3.out).mono ?_
  rintro e w4 ⟨v3, rfl, hr3, hb4⟩
  have HB4 := Aside0.mk (HB3.out.trans (hb4.mono HB3.out.size))
  replace K1 := Aside0.mk (Kd.C_below K1.out hb4)
  replace K2 := Aside0.mk (Kd.C_below K2.out hb4)
  clear hb4
  obtain ⟨A3, c3, rfl, l3, k3⟩ := Kd.R_reads hr3
  have K3 := Aside0.mk k3
  have L3 := Aside0.mk l3
  clear hr3 k3 l3
  go_wp2_with (fail)
  refine (lexer_Solid.calls 65536 A1 c1 ta u w4 K1.out L1.out S1.out).mono ?_
  rintro e w5 ⟨v4, rfl, hr4, hb5⟩
  have HB5 := Aside0.mk (HB4.out.trans (hb5.mono HB4.out.size))
  replace K2 := Aside0.mk (Kd.C_below K2.out hb5)
  replace K3 := Aside0.mk (Kd.C_below K3.out hb5)
  clear hb5
  obtain ⟨A4, c4, rfl, _, k4⟩ := Kd.R_reads hr4
  have K4 := Aside0.mk k4
  clear hr4 k4
  go_wp2_with (fail)
  refine (lexer_Solid.calls 65536 A2 c2 tb v w5 K2.out L2.out S2.out).mono ?_
  rintro e w6 ⟨v5, rfl, hr5, hb6⟩
  have HB6 := Aside0.mk (HB5.out.trans (hb6.mono HB5.out.size))
  replace K3 := Aside0.mk (Kd.C_below K3.out hb6)
  replace K4 := Aside0.mk (Kd.C_below K4.out hb6)
  clear hb6
  obtain ⟨A5, c5, rfl, _, k5⟩ := Kd.R_reads hr5
  have K5 := Aside0.mk k5
  clear hr5 k5
  go_wp2_with (fail)
  refine (lexer_Solid.calls 65536 A3 c3 tz z w6 K3.out L3.out S3.out).mono ?_
  rintro e w7 ⟨v6, rfl, hr6, hb7⟩
  have HB7 := Aside0.mk (HB6.out.trans (hb7.mono HB6.out.size))
  replace K4 := Aside0.mk (Kd.C_below K4.out hb7)
  replace K5 := Aside0.mk (Kd.C_below K5.out hb7)
  clear hb7
  obtain ⟨A6, c6, rfl, _, k6⟩ := Kd.R_reads hr6
  have K6 := Aside0.mk k6
  clear hr6 k6 K1 K2 K3 L1 L2 L3 S1 S2 S3 H1 H2 H3 HB1 HB2 HB3 HB4 HB5 HB6
  go_wp2
  go_loopw [17] (fun i wr => ∃ n : Nat, n ≤ z.length ∧ i = .int .i64 n ∧ Aside0 (Below w7.heap.size w7 wr)) (fun i _ => z.length - (intOf i).toNat)
  case atStart => exact ⟨0, Nat.zero_le _, rfl, ⟨Below.refl _ _⟩⟩
  case round =>
    obtain ⟨n, hn, rfl, HB⟩ := hrel
    by_cases hlt : n < z.length
    · have hx := HS.out n (by have := ezl.out; omega)
      rw [← eul.out] at hx
      have p0 : 0 ≤ (n : Int) := by omega
      have q0 : (n : Int) < (z.length : Int) := by omega
      have n8 : (n : Int) ≤ 802 := by have := HZL.out; omega
      obtain ⟨ad6, e6, x0, x1, x2⟩ := at_T33 K6.out (n : Int) p0 q0
      cases e6
      replace x0 := (HB.out.cell (World.block_lt_of_cell? w7 _ x0)).trans x0
      replace x1 := (HB.out.cell (World.block_lt_of_cell? w7 _ x1)).trans x1
      replace x2 := (HB.out.cell (World.block_lt_of_cell? w7 _ x2)).trans x2
      rw [Int.toNat_natCast] at x0 x1 x2
      have HLT := Aside0.mk hlt
      have c1 : decide ((n : Int) < (z.length : Int)) = true := decide_eq_true q0
      rcases hx with ⟨hu, he⟩ | ⟨hu, hv, g0, g1, g2⟩
      · have q1 : (n : Int) < (u.length : Int) := by omega
        have c2 : decide ((n : Int) < (u.length : Int)) = true := decide_eq_true q1
        obtain ⟨ad4, e4, y0, y1, y2⟩ := at_T33 K4.out (n : Int) p0 q1
        cases e4
        replace y0 := (HB.out.cell (World.block_lt_of_cell? w7 _ y0)).trans y0
        replace y1 := (HB.out.cell (World.block_lt_of_cell? w7 _ y1)).trans y1
        replace y2 := (HB.out.cell (World.block_lt_of_cell? w7 _ y2)).trans y2
        rw [Int.toNat_natCast] at y0 y1 y2
        rw [he] at x0 x1 x2
        generalize rd_T33 u (n : Int) = r at x0 x1 x2 y0 y1 y2
        have X0 := cell_old x0
        have X1 := cell_old x1
        have X2 := cell_old x2
        have Y0 := cell_old y0
        have Y1 := cell_old y1
        have Y2 := cell_old y2
        clear he hu hlt hn x0 x1 x2 y0 y1 y2
        go_wp2
        go_quiet (fail)
        go_wp2
        go_roundw
        case rel => exact ⟨n + 1, HLT.out, by go_num, ⟨by (with_reducible repeat (first | exact HB.out | apply below_drew | apply pw_below_drewN | apply below_alloc))⟩⟩
        case measure =>
          have := HLT.out
          simp [intOf]; omega
      · have q1 : ¬ (n : Int) < (u.length : Int) := by omega
        have c2 : decide ((n : Int) < (u.length : Int)) = false := decide_eq_false q1
        have p2 : 0 ≤ (n : Int) - (u.length : Int) := by omega
        have q2 : (n : Int) - (u.length : Int) < (v.length : Int) := by have := evl.out; omega
        have ev : ((n - u.length : Nat) : Int) = (n : Int) - (u.length : Int) := by omega
        have hpp := HP.out (n - u.length) hv
        obtain ⟨ad5, e5, y0, y1, y2⟩ := at_T33 K5.out ((n : Int) - (u.length : Int)) p2 q2
        cases e5
        replace y0 := (HB.out.cell (World.block_lt_of_cell? w7 _ y0)).trans y0
        replace y1 := (HB.out.cell (World.block_lt_of_cell? w7 _ y1)).trans y1
        replace y2 := (HB.out.cell (World.block_lt_of_cell? w7 _ y2)).trans y2
        rw [show ((n : Int) - (u.length : Int)).toNat = n - u.length from by omega] at y0 y1 y2
        rw [ev] at g0 g1 g2 hpp
        rw [g0] at x0
        rw [g1] at x1
        rw [g2] at x2
        generalize rd_T33 v ((n : Int) - (u.length : Int)) = r at x0 x1 x2 y0 y1 y2 hpp
        obtain ⟨r0, r1⟩ := hpp
        have es : ((a.size + 1 : Nat) : Int) = (a.size : Int) + 1 := by omega
        rw [es] at x2
        have X0 := cell_old x0
        have X1 := cell_old x1
        have X2 := cell_old x2
        have Y0 := cell_old y0
        have Y1 := cell_old y1
        have Y2 := cell_old y2
        clear g0 g1 g2 ev hv hu hlt hn es q1 x0 x1 x2 y0 y1 y2
        go_wp2
        go_quiet (fail)
        go_wp2
        go_roundw
        case rel => exact ⟨n + 1, HLT.out, by go_num, ⟨by (with_reducible repeat (first | exact HB.out | apply below_drew | apply pw_below_drewN | apply below_alloc))⟩⟩
        case measure =>
          have := HLT.out
          simp [intOf]; omega
    · obtain rfl : n = z.length := by omega
      clear hlt hn
      go_wp2
      go_ret
      exact ⟨rfl, HB7.out.trans (HB.out.mono HB7.out.size)⟩

end Go.Proofs.YtapkfblkghoknaaDoor.PX
