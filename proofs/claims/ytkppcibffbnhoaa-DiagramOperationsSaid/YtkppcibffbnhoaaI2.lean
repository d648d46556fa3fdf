/-
  Walks: DiagramOperations.
-/
import Derived.Test.YtkppcibffbnhoaaI1
import Derived.Test.YtkppcibffbnhoaaH2
namespace Go.Proofs.Ytkppcibffbnhoaa
open Go.RowKit
set_option maxRecDepth 100000

theorem eval_is (v : Value) (t : T) (a : Nat) (b : Bool) (ha : a < 18446744073709551616) (w : World) (h : DV w v t) (hb : t.ev (bitsF a) = b) : Calls Try.prog 17 #[v, .int .u64 a] w (ER b w) := by
  have := evaluate_any v t a ha w h
  rw [hb] at this
  exact this
theorem table_bit (v : Value) (t : T) (m : Nat) (b : Bool) (hm : m < 4096) (w : World) (h : DV w v t) (hb : t.ev (bitsF m) = b) : Calls Try.prog 18 #[v] w fun e w' => ∃ g, e = .returned (.slice (some ⟨g, 0, none⟩) 4096 4096) ∧ w'.cell? ⟨g, m, none⟩ = some (.bool b) ∧ Below w.heap.size w w' :=
  (table_any v t w h).mono fun _ _ ⟨g, h1, h2, h3⟩ => ⟨g, h1, by rw [h2.cell hm, hb], h3⟩

set_option maxHeartbeats 32000000 in
theorem operations_walk (P1 P2 : Option Addr) (n1 n2 c1 c2 : Nat) (ps1 ps2 : List IP) (a : Nat) (haa : a < 18446744073709551616) (w : World) (h1 : PS w P1 n1 ps1) (h2 : PS w P2 n2 ps2) :
    Calls Try.prog 5 #[.slice P1 n1 c1, .slice P2 n2 c2, .int .u64 a] w (ER true w) := by
  have hd1 := (drawn_any P1 n1 c1 ps1 w h1).mono fun _ _ => DR.parts
  have hd2 := fun wx (hw : Below w.heap.size w wx) => (drawn_any P2 n2 c2 ps2 wx (h2.below hw)).mono fun _ _ => DR.parts
  clear h1 h2
  go_enter Try.func5, Try.ntmps5
  go_upto_region 2 with (go_at_call 10; refine hd1.mono ?_; rintro e w1 ⟨p1, m1, k1, r1, b1, rfl, q1, ht1⟩; have Q1 := Lib.hid q1; have HT1 := Lib.hid ht1; clear q1 ht1)
  have hal1 : Below w1.heap.size w1 (w1.alloc (.cells #[.slice p1 m1 k1, .int .i64 r1] 24)) := (Below.refl _ _).alloc (Nat.le_refl _) _
  have hn1 := heap_alloc_new w1 (.cells #[.slice p1 m1 k1, .int .i64 r1] 24)
  generalize w1.alloc (.cells #[.slice p1 m1 k1, .int .i64 r1] 24) = w2 at *
  have A1 := Lib.hid hal1; have N1 := Lib.hid hn1; have B2 := Lib.hid (Q1.out.step hal1)
  clear hal1 hn1
  go_upto_region 3 with (go_at_call 10; refine (hd2 _ B2.out).mono ?_; rintro e w3 ⟨p2, m2, k2, r2, b2, rfl, q2, ht2⟩; have Q2 := Lib.hid q2; have HT2 := Lib.hid ht2; clear q2 ht2)
  have hal2 : Below w3.heap.size w3 (w3.alloc (.cells #[.slice p2 m2 k2, .int .i64 r2] 24)) := (Below.refl _ _).alloc (Nat.le_refl _) _
  have hn2 := heap_alloc_new w3 (.cells #[.slice p2 m2 k2, .int .i64 r2] 24)
  generalize w3.alloc (.cells #[.slice p2 m2 k2, .int .i64 r2] 24) = wa at *
  have B4 := Lib.hid (B2.out.step (Q2.out.step hal2)); have B24 := Lib.hid (Q2.out.step hal2)
  have hra := ((B24.out.block _ (heap_lt N1.out))).trans N1.out
  have Hra0 := Lib.hid hra; have Hrb0 := Lib.hid hn2; have A2 := Lib.hid hal2
  clear hra hn2 hal2 hd1 hd2
  cases b1
  case false => go_wp2_with (go_at_call 9; refine (awake_any _).mono ?_; rintro e w9 ⟨rfl, q9⟩; have Q9 := Lib.hid q9; clear q9)
                go_ret
                exact ⟨rfl, B4.out.step Q9.out⟩
  cases b2
  case false => go_wp2_with (go_at_call 9; refine (awake_any _).mono ?_; rintro e w9 ⟨rfl, q9⟩; have Q9 := Lib.hid q9; clear q9)
                go_ret
                exact ⟨rfl, B4.out.step Q9.out⟩
  obtain ⟨ta, da, -⟩ := HT1.out rfl
  obtain ⟨tb, db, -⟩ := HT2.out rfl
  have oa := da.ok
  have ob := db.ok
  have Va0 := Lib.hid (da.below (A1.out.step B24.out))
  have Vb0 := Lib.hid (db.below A2.out)
  obtain ⟨ab, oab, eab⟩ := and_tree oa ob
  obtain ⟨ho, oho, eho⟩ := or_tree oa ob
  obtain ⟨na, ona, ena⟩ := not_tree oa
  have fab := eab (bitsF a)
  have fho := eho (bitsF a)
  have fna := ena (bitsF a)
  have flo := evaluate_low ta oa a
  obtain ⟨eA, ea⟩ : ∃ b, ta.ev (bitsF a) = b := ⟨_, rfl⟩
  obtain ⟨eB, eb⟩ : ∃ b, tb.ev (bitsF a) = b := ⟨_, rfl⟩
  rw [ea, eb] at fab fho
  rw [ea] at fna flo
  have hbits := bits_and_u64 a 4095 haa (by omega)
  have hm4 : a &&& 4095 < 4096 := Nat.lt_of_le_of_lt Nat.and_le_right (by omega)
  generalize a &&& 4095 = m at *
  have Eab := Lib.hid eab; have Eho := Lib.hid eho; have Ena := Lib.hid ena
  have Fab := Lib.hid fab; have Fho := Lib.hid fho; have Fna := Lib.hid fna; have Flo := Lib.hid flo; have Ea := Lib.hid ea; have Eb := Lib.hid eb
  have Haa := Lib.hid haa; have Hbits := Lib.hid hbits; have Hm4 := Lib.hid hm4
  clear eab eho ena fab fho fna flo ea eb da db HT1 HT2 Q1 Q2 A1 A2 N1 B2 B24 haa hbits hm4
  go_upto_region 5 with fail
  have Y0a := Lib.hid (show wa.drew.cell? ⟨w1.heap.size, 0, none⟩ = _ from (cells2 Hra0.out).1)
  have La := Lib.hid (show w1.heap.size < wa.drew.heap.size from heap_lt Hra0.out)
  have Ra := Lib.hid (show wa.drew.heap[w1.heap.size]? = _ from Hra0.out)
  have Y0b := Lib.hid (show wa.drew.cell? ⟨w3.heap.size, 0, none⟩ = _ from (cells2 Hrb0.out).1)
  have Lb := Lib.hid (show w3.heap.size < wa.drew.heap.size from heap_lt Hrb0.out)
  have Rb := Lib.hid (show wa.drew.heap[w3.heap.size]? = _ from Hrb0.out)
  have B0 := Lib.hid (show Below wa.heap.size wa wa.drew from (Below.refl _ _).drew)
  obtain ⟨z0a, z1a, -⟩ := cells2 Hra0.out
  obtain ⟨z0b, z1b, -⟩ := cells2 Hrb0.out
  go_upto_region 6 with (first
    | ((with_reducible refine Lex.at_finK ?_); refine LexK.finE_on (by kernel_rfl) (by repeat first | exact LexK.finL_nil | refine LexK.finL_none rfl ?_ | refine LexK.finL_skip (by decide +kernel) ?_ | refine LexK.finL_take rfl La.out Y0a.out ?_ | refine LexK.finL_take rfl Lb.out Y0b.out ?_) ?_)
    | ((with_reducible refine Lex.at_region ?_); refine LexK.wp_region_lexE (fun x => x < wa.drew.heap.size) (by kernel_rfl) (by decide +kernel) ?_)
    | ((with_reducible refine Lex.at_wpX ?_); with_reducible refine LexK.wpX_plain (by decide +kernel) ?_)
    | ((with_reducible refine Lex.at_wpX ?_); with_reducible refine LexK.wpX_call ?_)
    | ((with_reducible refine Lex.at_wpX ?_); with_reducible refine LexK.wpX_nil ?_)
    | ((with_reducible refine Lex.at_ext ?_); with_reducible refine LexK.ext_on Hext.out ?_)
    | (go_at_call 17; ((with_reducible refine (eval_is _ ta a eA Haa.out _ (Va0.out.below B0.out) Ea.out).mono ?_); rintro e x0 ⟨rfl, q⟩;  have Hext := Lib.hid (LexK.Ext.of_below (Kp := fun x => x < wa.drew.heap.size) q (Nat.le_refl _)); have B1 := Lib.hid (B0.out.step q); have q0 : Below wa.drew.heap.size wa.drew x0 := q; have Q0 := Lib.hid q0; obtain ⟨u0a, t0a, -⟩ := cells2 ((q0.block _ La.out).trans Ra.out); obtain ⟨u0b, t0b, -⟩ := cells2 ((q0.block _ Lb.out).trans Rb.out); clear q q0))
    | (go_at_call 17; ((with_reducible refine (eval_is _ tb a eB Haa.out _ (Vb0.out.below B1.out) Eb.out).mono ?_); rintro e x1 ⟨rfl, q⟩;  have Hext := Lib.hid (LexK.Ext.of_below (Kp := fun x => x < wa.drew.heap.size) q (Nat.le_refl _)); have B2 := Lib.hid (B1.out.step q); have q0 : Below wa.drew.heap.size wa.drew x1 := Q0.out.trans (q.mono Q0.out.size); have Q1 := Lib.hid q0; obtain ⟨u1a, t1a, -⟩ := cells2 ((q0.block _ La.out).trans Ra.out); obtain ⟨u1b, t1b, -⟩ := cells2 ((q0.block _ Lb.out).trans Rb.out); clear q q0)))
  have Va := Lib.hid (Va0.out.below B2.out); have Vb := Lib.hid (Vb0.out.below B2.out)
  have Hra := Lib.hid ((B2.out.block _ (heap_lt Hra0.out)).trans Hra0.out); have Hrb := Lib.hid ((B2.out.block _ (heap_lt Hrb0.out)).trans Hrb0.out)
  have B6 := Lib.hid (B4.out.step B2.out)
  clear B2 B0 B1 Hra0 Hrb0 Va0 Vb0 B4
  clear z0a z1a z0b z1b
  rename_i wb _
  have hla := heap_lt Hra.out
  have hlb := heap_lt Hrb.out
  obtain ⟨J, hJd⟩ : ∃ J : (Nat → Prop) → Act → World → Prop, J = fun (D : Nat → Prop) (ac : Act) (w' : World) => ∃ (f : Nat → Nat) (s40 s41 s42 s43 s44 s45 s46 s47 s13 s14 s15 : Value), ac = ⟨((.slice P1 n1 c1) :: (.slice P2 n2 c2) :: (.int .u64 a) :: undef :: undef :: undef :: (.bool false) :: (.pointer (some ⟨w1.heap.size, 0, none⟩)) :: (.bool true) :: (.pointer (some ⟨w3.heap.size, 0, none⟩)) :: (.bool true) :: (.bool eA) :: (.bool eB) :: s13 :: s14 :: s15 :: undef :: (.tuple #[(.agg #[.slice p1 m1 k1, .int .i64 r1]), .bool true]) :: (.slice P1 n1 c1) :: (.tuple #[(.agg #[.slice p1 m1 k1, .int .i64 r1]), .bool true]) :: (.agg #[.slice p1 m1 k1, .int .i64 r1]) :: (.bool true) :: (.tuple #[(.agg #[.slice p2 m2 k2, .int .i64 r2]), .bool true]) :: (.slice P2 n2 c2) :: (.tuple #[(.agg #[.slice p2 m2 k2, .int .i64 r2]), .bool true]) :: (.agg #[.slice p2 m2 k2, .int .i64 r2]) :: (.bool true) :: (.bool true) :: (.bool false) :: (.bool false) :: (.bool true) :: (.bool false) :: (.bool false) :: undef :: (.agg #[.slice p1 m1 k1, .int .i64 r1]) :: (.int .u64 a) :: (.bool eA) :: (.agg #[.slice p2 m2 k2, .int .i64 r2]) :: (.int .u64 a) :: (.bool eB) :: s40 :: s41 :: s42 :: s43 :: s44 :: s45 :: s46 :: s47 :: undef :: undef :: undef :: undef :: undef :: undef :: undef :: undef :: undef :: undef :: undef :: undef :: undef :: undef :: undef :: undef :: undef :: undef :: undef :: undef :: undef :: undef :: undef :: undef :: undef :: undef :: undef :: undef :: undef :: undef :: undef :: undef :: undef :: undef :: undef :: undef :: undef :: undef :: undef :: undef :: undef :: undef :: undef :: undef :: undef :: undef :: undef :: undef :: undef :: undef :: undef :: undef :: undef :: []).toArray, []⟩ ∧ Below x1.heap.size x1 w' ∧ (D 0 → s40 = (.agg #[.slice p1 m1 k1, .int .i64 r1])) ∧ (D 1 → s41 = (.agg #[.slice p2 m2 k2, .int .i64 r2])) ∧ (D 2 → DV w' s42 ab) ∧ (D 3 → s43 = (.agg #[.slice p1 m1 k1, .int .i64 r1])) ∧ (D 4 → s44 = (.agg #[.slice p2 m2 k2, .int .i64 r2])) ∧ (D 5 → DV w' s45 ho) ∧ (D 6 → s46 = (.agg #[.slice p1 m1 k1, .int .i64 r1])) ∧ (D 7 → DV w' s47 na) ∧ (D 8 → LC f x1.heap.size 8 w' s13 fun v => D 11 → v = s42) ∧ (D 9 → LC f x1.heap.size 9 w' s14 fun v => D 12 → v = s45) ∧ (D 10 → LC f x1.heap.size 10 w' s15 fun v => D 13 → v = s47) ∧ (D 2 → D 0) ∧ (D 2 → D 1) ∧ (D 5 → D 3) ∧ (D 5 → D 4) ∧ (D 7 → D 6) ∧ (D 11 → D 8) ∧ (D 11 → D 2) ∧ (D 12 → D 9) ∧ (D 12 → D 5) ∧ (D 13 → D 10) ∧ (D 13 → D 7) := ⟨_, rfl⟩
  have HJ := Lib.hid hJd; clear hJd
  refine Inv.wp_region_inv J (by kernel_rfl) (by decide +kernel) ?_ ?_ ?_
  · rw [HJ.out]
    exact ⟨fun _ => 0, _, _, _, _, _, _, _, _, _, _, _, rfl, (Below.refl _ _).drew, fun h => h.elim, fun h => h.elim, fun h => h.elim, fun h => h.elim, fun h => h.elim, fun h => h.elim, fun h => h.elim, fun h => h.elim, fun h => h.elim, fun h => h.elim, fun h => h.elim, fun h => h.elim, fun h => h.elim, fun h => h.elim, fun h => h.elim, fun h => h.elim, fun h => h.elim, fun h => h.elim, fun h => h.elim, fun h => h.elim, fun h => h.elim, fun h => h.elim⟩
  · intro i op hi D ac w' hD hA hJ
    rw [HJ.out] at hJ
    obtain ⟨f, s40, s41, s42, s43, s44, s45, s46, s47, s13, s14, s15, rfl, hb, h0, h1, h2, h3, h4, h5, h6, h7, h8, h9, h10, g2_0, g2_1, g5_3, g5_4, g7_6, g11_8, g11_2, g12_9, g12_5, g13_10, g13_7⟩ := hJ
    match i, hi, hA with
    | 0, hi, hA =>
      obtain rfl := Option.some.inj hi
      clear hi
      clear hA
      obtain ⟨c0, c1, -⟩ := cells2 ((hb.block _ hla).trans Hra.out)
      have H0 := Lib.hid h0; have H1 := Lib.hid h1; have H2 := Lib.hid h2; have H3 := Lib.hid h3; have H4 := Lib.hid h4; have H5 := Lib.hid h5; have H6 := Lib.hid h6; have H7 := Lib.hid h7; have H8 := Lib.hid h8; have H9 := Lib.hid h9; have H10 := Lib.hid h10; have Hb := Lib.hid hb; have HD := Lib.hid hD; clear hb hD h0 h1 h2 h3 h4 h5 h6 h7 h8 h9 h10
      go_wp2
      rw [HJ.out]
      exact ⟨f, _, _, _, _, _, _, _, _, _, _, _, rfl, Hb.out, fun _ => rfl, fun h => (H1.out (h.resolve_right (by decide))), fun h => (H2.out (h.resolve_right (by decide))), fun h => (H3.out (h.resolve_right (by decide))), fun h => (H4.out (h.resolve_right (by decide))), fun h => (H5.out (h.resolve_right (by decide))), fun h => (H6.out (h.resolve_right (by decide))), fun h => (H7.out (h.resolve_right (by decide))), fun h => ((H8.out (h.resolve_right (by decide)))).mono fun v hc h' => hc (h'.resolve_right (by decide)), fun h => ((H9.out (h.resolve_right (by decide)))).mono fun v hc h' => hc (h'.resolve_right (by decide)), fun h => ((H10.out (h.resolve_right (by decide)))).mono fun v hc h' => hc (h'.resolve_right (by decide)), fun _ => .inr rfl, fun h => .inl (g2_1 (h.resolve_right (by decide))), fun h => .inl (g5_3 (h.resolve_right (by decide))), fun h => .inl (g5_4 (h.resolve_right (by decide))), fun h => .inl (g7_6 (h.resolve_right (by decide))), fun h => .inl (g11_8 (h.resolve_right (by decide))), fun h => .inl (g11_2 (h.resolve_right (by decide))), fun h => .inl (g12_9 (h.resolve_right (by decide))), fun h => .inl (g12_5 (h.resolve_right (by decide))), fun h => .inl (g13_10 (h.resolve_right (by decide))), fun h => .inl (g13_7 (h.resolve_right (by decide)))⟩
    | 1, hi, hA =>
      obtain rfl := Option.some.inj hi
      clear hi
      clear hA
      obtain ⟨c0, c1, -⟩ := cells2 ((hb.block _ hlb).trans Hrb.out)
      have H0 := Lib.hid h0; have H1 := Lib.hid h1; have H2 := Lib.hid h2; have H3 := Lib.hid h3; have H4 := Lib.hid h4; have H5 := Lib.hid h5; have H6 := Lib.hid h6; have H7 := Lib.hid h7; have H8 := Lib.hid h8; have H9 := Lib.hid h9; have H10 := Lib.hid h10; have Hb := Lib.hid hb; have HD := Lib.hid hD; clear hb hD h0 h1 h2 h3 h4 h5 h6 h7 h8 h9 h10
      go_wp2
      rw [HJ.out]
      exact ⟨f, _, _, _, _, _, _, _, _, _, _, _, rfl, Hb.out, fun h => (H0.out (h.resolve_right (by decide))), fun _ => rfl, fun h => (H2.out (h.resolve_right (by decide))), fun h => (H3.out (h.resolve_right (by decide))), fun h => (H4.out (h.resolve_right (by decide))), fun h => (H5.out (h.resolve_right (by decide))), fun h => (H6.out (h.resolve_right (by decide))), fun h => (H7.out (h.resolve_right (by decide))), fun h => ((H8.out (h.resolve_right (by decide)))).mono fun v hc h' => hc (h'.resolve_right (by decide)), fun h => ((H9.out (h.resolve_right (by decide)))).mono fun v hc h' => hc (h'.resolve_right (by decide)), fun h => ((H10.out (h.resolve_right (by decide)))).mono fun v hc h' => hc (h'.resolve_right (by decide)), fun h => .inl (g2_0 (h.resolve_right (by decide))), fun _ => .inr rfl, fun h => .inl (g5_3 (h.resolve_right (by decide))), fun h => .inl (g5_4 (h.resolve_right (by decide))), fun h => .inl (g7_6 (h.resolve_right (by decide))), fun h => .inl (g11_8 (h.resolve_right (by decide))), fun h => .inl (g11_2 (h.resolve_right (by decide))), fun h => .inl (g12_9 (h.resolve_right (by decide))), fun h => .inl (g12_5 (h.resolve_right (by decide))), fun h => .inl (g13_10 (h.resolve_right (by decide))), fun h => .inl (g13_7 (h.resolve_right (by decide)))⟩
    | 2, hi, hA =>
      obtain rfl := Option.some.inj hi
      clear hi
      have d0 := after_of hA 0 (by decide +kernel)
      have d1 := after_of hA 1 (by decide +kernel)
      clear hA
      obtain rfl := h0 d0
      obtain rfl := h1 d1
      have hcall := andD_any _ _ ta tb ab w' (Va.out.below hb) (Vb.out.below hb) oab Eab.out
      have H0 := Lib.hid h0; have H1 := Lib.hid h1; have H2 := Lib.hid h2; have H3 := Lib.hid h3; have H4 := Lib.hid h4; have H5 := Lib.hid h5; have H6 := Lib.hid h6; have H7 := Lib.hid h7; have H8 := Lib.hid h8; have H9 := Lib.hid h9; have H10 := Lib.hid h10; have Hb := Lib.hid hb; have HD := Lib.hid hD; clear hb hD h0 h1 h2 h3 h4 h5 h6 h7 h8 h9 h10
      go_wp2_with (go_at_call 13; refine hcall.mono ?_; rintro e w2 ⟨v2, rfl, q1, q2⟩; have Hq1 := Lib.hid q1; have Hq := Lib.hid q2; clear q1 q2)
      rw [HJ.out]
      exact ⟨fu f w'.heap.size 2, _, _, _, _, _, _, _, _, _, _, _, rfl, Hb.out.trans (Hq.out.mono Hb.out.size), fun _ => rfl, fun _ => rfl, fun _ => Hq1.out, fun h => (H3.out (h.resolve_right (by decide))), fun h => (H4.out (h.resolve_right (by decide))), fun h => ((H5.out (h.resolve_right (by decide)))).below Hq.out, fun h => (H6.out (h.resolve_right (by decide))), fun h => ((H7.out (h.resolve_right (by decide)))).below Hq.out, fun h => (((H8.out (h.resolve_right (by decide))).grow Hq.out)).mono fun v hc h' => (HD.out (g11_2 (h'.resolve_right (by decide)))).elim, fun h => (((H9.out (h.resolve_right (by decide))).grow Hq.out)).mono fun v hc h' => hc (h'.resolve_right (by decide)), fun h => (((H10.out (h.resolve_right (by decide))).grow Hq.out)).mono fun v hc h' => hc (h'.resolve_right (by decide)), fun _ => .inl d0, fun _ => .inl d1, fun h => .inl (g5_3 (h.resolve_right (by decide))), fun h => .inl (g5_4 (h.resolve_right (by decide))), fun h => .inl (g7_6 (h.resolve_right (by decide))), fun h => .inl (g11_8 (h.resolve_right (by decide))), fun _ => .inr rfl, fun h => .inl (g12_9 (h.resolve_right (by decide))), fun h => .inl (g12_5 (h.resolve_right (by decide))), fun h => .inl (g13_10 (h.resolve_right (by decide))), fun h => .inl (g13_7 (h.resolve_right (by decide)))⟩
    | 3, hi, hA =>
      obtain rfl := Option.some.inj hi
      clear hi
      clear hA
      obtain ⟨c0, c1, -⟩ := cells2 ((hb.block _ hla).trans Hra.out)
      have H0 := Lib.hid h0; have H1 := Lib.hid h1; have H2 := Lib.hid h2; have H3 := Lib.hid h3; have H4 := Lib.hid h4; have H5 := Lib.hid h5; have H6 := Lib.hid h6; have H7 := Lib.hid h7; have H8 := Lib.hid h8; have H9 := Lib.hid h9; have H10 := Lib.hid h10; have Hb := Lib.hid hb; have HD := Lib.hid hD; clear hb hD h0 h1 h2 h3 h4 h5 h6 h7 h8 h9 h10
      go_wp2
      rw [HJ.out]
      exact ⟨f, _, _, _, _, _, _, _, _, _, _, _, rfl, Hb.out, fun h => (H0.out (h.resolve_right (by decide))), fun h => (H1.out (h.resolve_right (by decide))), fun h => (H2.out (h.resolve_right (by decide))), fun _ => rfl, fun h => (H4.out (h.resolve_right (by decide))), fun h => (H5.out (h.resolve_right (by decide))), fun h => (H6.out (h.resolve_right (by decide))), fun h => (H7.out (h.resolve_right (by decide))), fun h => ((H8.out (h.resolve_right (by decide)))).mono fun v hc h' => hc (h'.resolve_right (by decide)), fun h => ((H9.out (h.resolve_right (by decide)))).mono fun v hc h' => hc (h'.resolve_right (by decide)), fun h => ((H10.out (h.resolve_right (by decide)))).mono fun v hc h' => hc (h'.resolve_right (by decide)), fun h => .inl (g2_0 (h.resolve_right (by decide))), fun h => .inl (g2_1 (h.resolve_right (by decide))), fun _ => .inr rfl, fun h => .inl (g5_4 (h.resolve_right (by decide))), fun h => .inl (g7_6 (h.resolve_right (by decide))), fun h => .inl (g11_8 (h.resolve_right (by decide))), fun h => .inl (g11_2 (h.resolve_right (by decide))), fun h => .inl (g12_9 (h.resolve_right (by decide))), fun h => .inl (g12_5 (h.resolve_right (by decide))), fun h => .inl (g13_10 (h.resolve_right (by decide))), fun h => .inl (g13_7 (h.resolve_right (by decide)))⟩
    | 4, hi, hA =>
      obtain rfl := Option.some.inj hi
      clear hi
      clear hA
      obtain ⟨c0, c1, -⟩ := cells2 ((hb.block _ hlb).trans Hrb.out)
      have H0 := Lib.hid h0; have H1 := Lib.hid h1; have H2 := Lib.hid h2; have H3 := Lib.hid h3; have H4 := Lib.hid h4; have H5 := Lib.hid h5; have H6 := Lib.hid h6; have H7 := Lib.hid h7; have H8 := Lib.hid h8; have H9 := Lib.hid h9; have H10 := Lib.hid h10; have Hb := Lib.hid hb; have HD := Lib.hid hD; clear hb hD h0 h1 h2 h3 h4 h5 h6 h7 h8 h9 h10
      go_wp2
      rw [HJ.out]
      exact ⟨f, _, _, _, _, _, _, _, _, _, _, _, rfl, Hb.out, fun h => (H0.out (h.resolve_right (by decide))), fun h => (H1.out (h.resolve_right (by decide))), fun h => (H2.out (h.resolve_right (by decide))), fun h => (H3.out (h.resolve_right (by decide))), fun _ => rfl, fun h => (H5.out (h.resolve_right (by decide))), fun h => (H6.out (h.resolve_right (by decide))), fun h => (H7.out (h.resolve_right (by decide))), fun h => ((H8.out (h.resolve_right (by decide)))).mono fun v hc h' => hc (h'.resolve_right (by decide)), fun h => ((H9.out (h.resolve_right (by decide)))).mono fun v hc h' => hc (h'.resolve_right (by decide)), fun h => ((H10.out (h.resolve_right (by decide)))).mono fun v hc h' => hc (h'.resolve_right (by decide)), fun h => .inl (g2_0 (h.resolve_right (by decide))), fun h => .inl (g2_1 (h.resolve_right (by decide))), fun h => .inl (g5_3 (h.resolve_right (by decide))), fun _ => .inr rfl, fun h => .inl (g7_6 (h.resolve_right (by decide))), fun h => .inl (g11_8 (h.resolve_right (by decide))), fun h => .inl (g11_2 (h.resolve_right (by decide))), fun h => .inl (g12_9 (h.resolve_right (by decide))), fun h => .inl (g12_5 (h.resolve_right (by decide))), fun h => .inl (g13_10 (h.resolve_right (by decide))), fun h => .inl (g13_7 (h.resolve_right (by decide)))⟩
    | 5, hi, hA =>
      obtain rfl := Option.some.inj hi
      clear hi
      have d3 := after_of hA 3 (by decide +kernel)
      have d4 := after_of hA 4 (by decide +kernel)
      clear hA
      obtain rfl := h3 d3
      obtain rfl := h4 d4
      have hcall := orD_any _ _ ta tb ho w' (Va.out.below hb) (Vb.out.below hb) oho Eho.out
      have H0 := Lib.hid h0; have H1 := Lib.hid h1; have H2 := Lib.hid h2; have H3 := Lib.hid h3; have H4 := Lib.hid h4; have H5 := Lib.hid h5; have H6 := Lib.hid h6; have H7 := Lib.hid h7; have H8 := Lib.hid h8; have H9 := Lib.hid h9; have H10 := Lib.hid h10; have Hb := Lib.hid hb; have HD := Lib.hid hD; clear hb hD h0 h1 h2 h3 h4 h5 h6 h7 h8 h9 h10
      go_wp2_with (go_at_call 14; refine hcall.mono ?_; rintro e w2 ⟨v2, rfl, q1, q2⟩; have Hq1 := Lib.hid q1; have Hq := Lib.hid q2; clear q1 q2)
      rw [HJ.out]
      exact ⟨fu f w'.heap.size 5, _, _, _, _, _, _, _, _, _, _, _, rfl, Hb.out.trans (Hq.out.mono Hb.out.size), fun h => (H0.out (h.resolve_right (by decide))), fun h => (H1.out (h.resolve_right (by decide))), fun h => ((H2.out (h.resolve_right (by decide)))).below Hq.out, fun _ => rfl, fun _ => rfl, fun _ => Hq1.out, fun h => (H6.out (h.resolve_right (by decide))), fun h => ((H7.out (h.resolve_right (by decide)))).below Hq.out, fun h => (((H8.out (h.resolve_right (by decide))).grow Hq.out)).mono fun v hc h' => hc (h'.resolve_right (by decide)), fun h => (((H9.out (h.resolve_right (by decide))).grow Hq.out)).mono fun v hc h' => (HD.out (g12_5 (h'.resolve_right (by decide)))).elim, fun h => (((H10.out (h.resolve_right (by decide))).grow Hq.out)).mono fun v hc h' => hc (h'.resolve_right (by decide)), fun h => .inl (g2_0 (h.resolve_right (by decide))), fun h => .inl (g2_1 (h.resolve_right (by decide))), fun _ => .inl d3, fun _ => .inl d4, fun h => .inl (g7_6 (h.resolve_right (by decide))), fun h => .inl (g11_8 (h.resolve_right (by decide))), fun h => .inl (g11_2 (h.resolve_right (by decide))), fun h => .inl (g12_9 (h.resolve_right (by decide))), fun _ => .inr rfl, fun h => .inl (g13_10 (h.resolve_right (by decide))), fun h => .inl (g13_7 (h.resolve_right (by decide)))⟩
    | 6, hi, hA =>
      obtain rfl := Option.some.inj hi
      clear hi
      clear hA
      obtain ⟨c0, c1, -⟩ := cells2 ((hb.block _ hla).trans Hra.out)
      have H0 := Lib.hid h0; have H1 := Lib.hid h1; have H2 := Lib.hid h2; have H3 := Lib.hid h3; have H4 := Lib.hid h4; have H5 := Lib.hid h5; have H6 := Lib.hid h6; have H7 := Lib.hid h7; have H8 := Lib.hid h8; have H9 := Lib.hid h9; have H10 := Lib.hid h10; have Hb := Lib.hid hb; have HD := Lib.hid hD; clear hb hD h0 h1 h2 h3 h4 h5 h6 h7 h8 h9 h10
      go_wp2
      rw [HJ.out]
      exact ⟨f, _, _, _, _, _, _, _, _, _, _, _, rfl, Hb.out, fun h => (H0.out (h.resolve_right (by decide))), fun h => (H1.out (h.resolve_right (by decide))), fun h => (H2.out (h.resolve_right (by decide))), fun h => (H3.out (h.resolve_right (by decide))), fun h => (H4.out (h.resolve_right (by decide))), fun h => (H5.out (h.resolve_right (by decide))), fun _ => rfl, fun h => (H7.out (h.resolve_right (by decide))), fun h => ((H8.out (h.resolve_right (by decide)))).mono fun v hc h' => hc (h'.resolve_right (by decide)), fun h => ((H9.out (h.resolve_right (by decide)))).mono fun v hc h' => hc (h'.resolve_right (by decide)), fun h => ((H10.out (h.resolve_right (by decide)))).mono fun v hc h' => hc (h'.resolve_right (by decide)), fun h => .inl (g2_0 (h.resolve_right (by decide))), fun h => .inl (g2_1 (h.resolve_right (by decide))), fun h => .inl (g5_3 (h.resolve_right (by decide))), fun h => .inl (g5_4 (h.resolve_right (by decide))), fun _ => .inr rfl, fun h => .inl (g11_8 (h.resolve_right (by decide))), fun h => .inl (g11_2 (h.resolve_right (by decide))), fun h => .inl (g12_9 (h.resolve_right (by decide))), fun h => .inl (g12_5 (h.resolve_right (by decide))), fun h => .inl (g13_10 (h.resolve_right (by decide))), fun h => .inl (g13_7 (h.resolve_right (by decide)))⟩
    | 7, hi, hA =>
      obtain rfl := Option.some.inj hi
      clear hi
      have d6 := after_of hA 6 (by decide +kernel)
      clear hA
      obtain rfl := h6 d6
      have hcall := notD_any _ ta na w' (Va.out.below hb) ona Ena.out
      have H0 := Lib.hid h0; have H1 := Lib.hid h1; have H2 := Lib.hid h2; have H3 := Lib.hid h3; have H4 := Lib.hid h4; have H5 := Lib.hid h5; have H6 := Lib.hid h6; have H7 := Lib.hid h7; have H8 := Lib.hid h8; have H9 := Lib.hid h9; have H10 := Lib.hid h10; have Hb := Lib.hid hb; have HD := Lib.hid hD; clear hb hD h0 h1 h2 h3 h4 h5 h6 h7 h8 h9 h10
      go_wp2_with (go_at_call 16; refine hcall.mono ?_; rintro e w2 ⟨v2, rfl, q1, q2⟩; have Hq1 := Lib.hid q1; have Hq := Lib.hid q2; clear q1 q2)
      rw [HJ.out]
      exact ⟨fu f w'.heap.size 7, _, _, _, _, _, _, _, _, _, _, _, rfl, Hb.out.trans (Hq.out.mono Hb.out.size), fun h => (H0.out (h.resolve_right (by decide))), fun h => (H1.out (h.resolve_right (by decide))), fun h => ((H2.out (h.resolve_right (by decide)))).below Hq.out, fun h => (H3.out (h.resolve_right (by decide))), fun h => (H4.out (h.resolve_right (by decide))), fun h => ((H5.out (h.resolve_right (by decide)))).below Hq.out, fun _ => rfl, fun _ => Hq1.out, fun h => (((H8.out (h.resolve_right (by decide))).grow Hq.out)).mono fun v hc h' => hc (h'.resolve_right (by decide)), fun h => (((H9.out (h.resolve_right (by decide))).grow Hq.out)).mono fun v hc h' => hc (h'.resolve_right (by decide)), fun h => (((H10.out (h.resolve_right (by decide))).grow Hq.out)).mono fun v hc h' => (HD.out (g13_7 (h'.resolve_right (by decide)))).elim, fun h => .inl (g2_0 (h.resolve_right (by decide))), fun h => .inl (g2_1 (h.resolve_right (by decide))), fun h => .inl (g5_3 (h.resolve_right (by decide))), fun h => .inl (g5_4 (h.resolve_right (by decide))), fun _ => .inl d6, fun h => .inl (g11_8 (h.resolve_right (by decide))), fun h => .inl (g11_2 (h.resolve_right (by decide))), fun h => .inl (g12_9 (h.resolve_right (by decide))), fun h => .inl (g12_5 (h.resolve_right (by decide))), fun h => .inl (g13_10 (h.resolve_right (by decide))), fun _ => .inr rfl⟩
    | 8, hi, hA =>
      obtain rfl := Option.some.inj hi
      clear hi
      clear hA
      have hst : ¬ D 11 := fun h => hD (g11_8 h)
      have H0 := Lib.hid h0; have H1 := Lib.hid h1; have H2 := Lib.hid h2; have H3 := Lib.hid h3; have H4 := Lib.hid h4; have H5 := Lib.hid h5; have H6 := Lib.hid h6; have H7 := Lib.hid h7; have H8 := Lib.hid h8; have H9 := Lib.hid h9; have H10 := Lib.hid h10; have Hb := Lib.hid hb; have HD := Lib.hid hD; clear hb hD h0 h1 h2 h3 h4 h5 h6 h7 h8 h9 h10; have Hst := Lib.hid hst; clear hst
      go_wp2
      have Hq := Lib.hid ((Below.refl w'.heap.size w').alloc (Nat.le_refl _) (.cells #[.slice none 0 0, .int .i64 0] 24))
      rw [HJ.out]
      exact ⟨fu f w'.heap.size 8, _, _, _, _, _, _, _, _, _, _, _, rfl, Hb.out.trans (Hq.out.mono Hb.out.size), fun h => (H0.out (h.resolve_right (by decide))), fun h => (H1.out (h.resolve_right (by decide))), fun h => ((H2.out (h.resolve_right (by decide)))).below Hq.out, fun h => (H3.out (h.resolve_right (by decide))), fun h => (H4.out (h.resolve_right (by decide))), fun h => ((H5.out (h.resolve_right (by decide)))).below Hq.out, fun h => (H6.out (h.resolve_right (by decide))), fun h => ((H7.out (h.resolve_right (by decide)))).below Hq.out, fun _ => LC.new _ _ Hb.out.size fun h => (Hst.out (h.resolve_right (by decide))).elim, fun h => (((H9.out (h.resolve_right (by decide))).grow Hq.out)).mono fun v hc h' => hc (h'.resolve_right (by decide)), fun h => (((H10.out (h.resolve_right (by decide))).grow Hq.out)).mono fun v hc h' => hc (h'.resolve_right (by decide)), fun h => .inl (g2_0 (h.resolve_right (by decide))), fun h => .inl (g2_1 (h.resolve_right (by decide))), fun h => .inl (g5_3 (h.resolve_right (by decide))), fun h => .inl (g5_4 (h.resolve_right (by decide))), fun h => .inl (g7_6 (h.resolve_right (by decide))), fun _ => .inr rfl, fun h => .inl (g11_2 (h.resolve_right (by decide))), fun h => .inl (g12_9 (h.resolve_right (by decide))), fun h => .inl (g12_5 (h.resolve_right (by decide))), fun h => .inl (g13_10 (h.resolve_right (by decide))), fun h => .inl (g13_7 (h.resolve_right (by decide)))⟩
    | 9, hi, hA =>
      obtain rfl := Option.some.inj hi
      clear hi
      clear hA
      have hst : ¬ D 12 := fun h => hD (g12_9 h)
      have H0 := Lib.hid h0; have H1 := Lib.hid h1; have H2 := Lib.hid h2; have H3 := Lib.hid h3; have H4 := Lib.hid h4; have H5 := Lib.hid h5; have H6 := Lib.hid h6; have H7 := Lib.hid h7; have H8 := Lib.hid h8; have H9 := Lib.hid h9; have H10 := Lib.hid h10; have Hb := Lib.hid hb; have HD := Lib.hid hD; clear hb hD h0 h1 h2 h3 h4 h5 h6 h7 h8 h9 h10; have Hst := Lib.hid hst; clear hst
      go_wp2
      have Hq := Lib.hid ((Below.refl w'.heap.size w').alloc (Nat.le_refl _) (.cells #[.slice none 0 0, .int .i64 0] 24))
      rw [HJ.out]
      exact ⟨fu f w'.heap.size 9, _, _, _, _, _, _, _, _, _, _, _, rfl, Hb.out.trans (Hq.out.mono Hb.out.size), fun h => (H0.out (h.resolve_right (by decide))), fun h => (H1.out (h.resolve_right (by decide))), fun h => ((H2.out (h.resolve_right (by decide)))).below Hq.out, fun h => (H3.out (h.resolve_right (by decide))), fun h => (H4.out (h.resolve_right (by decide))), fun h => ((H5.out (h.resolve_right (by decide)))).below Hq.out, fun h => (H6.out (h.resolve_right (by decide))), fun h => ((H7.out (h.resolve_right (by decide)))).below Hq.out, fun h => (((H8.out (h.resolve_right (by decide))).grow Hq.out)).mono fun v hc h' => hc (h'.resolve_right (by decide)), fun _ => LC.new _ _ Hb.out.size fun h => (Hst.out (h.resolve_right (by decide))).elim, fun h => (((H10.out (h.resolve_right (by decide))).grow Hq.out)).mono fun v hc h' => hc (h'.resolve_right (by decide)), fun h => .inl (g2_0 (h.resolve_right (by decide))), fun h => .inl (g2_1 (h.resolve_right (by decide))), fun h => .inl (g5_3 (h.resolve_right (by decide))), fun h => .inl (g5_4 (h.resolve_right (by decide))), fun h => .inl (g7_6 (h.resolve_right (by decide))), fun h => .inl (g11_8 (h.resolve_right (by decide))), fun h => .inl (g11_2 (h.resolve_right (by decide))), fun _ => .inr rfl, fun h => .inl (g12_5 (h.resolve_right (by decide))), fun h => .inl (g13_10 (h.resolve_right (by decide))), fun h => .inl (g13_7 (h.resolve_right (by decide)))⟩
    | 10, hi, hA =>
      obtain rfl := Option.some.inj hi
      clear hi
      clear hA
      have hst : ¬ D 13 := fun h => hD (g13_10 h)
      have H0 := Lib.hid h0; have H1 := Lib.hid h1; have H2 := Lib.hid h2; have H3 := Lib.hid h3; have H4 := Lib.hid h4; have H5 := Lib.hid h5; have H6 := Lib.hid h6; have H7 := Lib.hid h7; have H8 := Lib.hid h8; have H9 := Lib.hid h9; have H10 := Lib.hid h10; have Hb := Lib.hid hb; have HD := Lib.hid hD; clear hb hD h0 h1 h2 h3 h4 h5 h6 h7 h8 h9 h10; have Hst := Lib.hid hst; clear hst
      go_wp2
      have Hq := Lib.hid ((Below.refl w'.heap.size w').alloc (Nat.le_refl _) (.cells #[.slice none 0 0, .int .i64 0] 24))
      rw [HJ.out]
      exact ⟨fu f w'.heap.size 10, _, _, _, _, _, _, _, _, _, _, _, rfl, Hb.out.trans (Hq.out.mono Hb.out.size), fun h => (H0.out (h.resolve_right (by decide))), fun h => (H1.out (h.resolve_right (by decide))), fun h => ((H2.out (h.resolve_right (by decide)))).below Hq.out, fun h => (H3.out (h.resolve_right (by decide))), fun h => (H4.out (h.resolve_right (by decide))), fun h => ((H5.out (h.resolve_right (by decide)))).below Hq.out, fun h => (H6.out (h.resolve_right (by decide))), fun h => ((H7.out (h.resolve_right (by decide)))).below Hq.out, fun h => (((H8.out (h.resolve_right (by decide))).grow Hq.out)).mono fun v hc h' => hc (h'.resolve_right (by decide)), fun h => (((H9.out (h.resolve_right (by decide))).grow Hq.out)).mono fun v hc h' => hc (h'.resolve_right (by decide)), fun _ => LC.new _ _ Hb.out.size fun h => (Hst.out (h.resolve_right (by decide))).elim, fun h => .inl (g2_0 (h.resolve_right (by decide))), fun h => .inl (g2_1 (h.resolve_right (by decide))), fun h => .inl (g5_3 (h.resolve_right (by decide))), fun h => .inl (g5_4 (h.resolve_right (by decide))), fun h => .inl (g7_6 (h.resolve_right (by decide))), fun h => .inl (g11_8 (h.resolve_right (by decide))), fun h => .inl (g11_2 (h.resolve_right (by decide))), fun h => .inl (g12_9 (h.resolve_right (by decide))), fun h => .inl (g12_5 (h.resolve_right (by decide))), fun _ => .inr rfl, fun h => .inl (g13_7 (h.resolve_right (by decide)))⟩
    | 11, hi, hA =>
      obtain rfl := Option.some.inj hi
      clear hi
      have d8 := after_of hA 8 (by decide +kernel)
      have d2 := after_of hA 2 (by decide +kernel)
      clear hA
      obtain ⟨g, x, y, rfl, hg1, hg2, hg3, hg4⟩ := h8 d8
      have hv := h2 d2
      obtain ⟨pq, cq, rfl, -⟩ := id hv.dd.ex
      have H0 := Lib.hid h0; have H1 := Lib.hid h1; have H2 := Lib.hid h2; have H3 := Lib.hid h3; have H4 := Lib.hid h4; have H5 := Lib.hid h5; have H6 := Lib.hid h6; have H7 := Lib.hid h7; have H9 := Lib.hid h9; have H10 := Lib.hid h10; have Hb := Lib.hid hb; have HD := Lib.hid hD; have Hv := Lib.hid hv; have Hg1 := Lib.hid hg1; have Hg2 := Lib.hid hg2; have Hg3 := Lib.hid hg3; clear hb hD hv hg1 hg2 hg3 hg4 h0 h1 h2 h3 h4 h5 h6 h7 h8 h9 h10
      go_wp2_with (with_reducible refine wpList_store_row rfl 24 (.tmp 13) (.tmp 42) rfl _ _ rfl rfl _ _ Hg3.out (by kernel_rfl) (by kernel_rfl) (by kernel_rfl) ?_)
      rw [HJ.out]
      exact ⟨f, _, _, _, _, _, _, _, _, _, _, _, rfl, below_setRow Hb.out Hg1.out, fun h => (H0.out (h.resolve_right (by decide))), fun h => (H1.out (h.resolve_right (by decide))), fun _ => Hv.out.setRow Hg3.out, fun h => (H3.out (h.resolve_right (by decide))), fun h => (H4.out (h.resolve_right (by decide))), fun h => ((H5.out (h.resolve_right (by decide)))).setRow Hg3.out, fun h => (H6.out (h.resolve_right (by decide))), fun h => ((H7.out (h.resolve_right (by decide)))).setRow Hg3.out, fun _ => ⟨g, _, _, rfl, Hg1.out, Hg2.out, setRow_heap _ _ _ _ _ _ Hg3.out, fun _ => rfl⟩, fun h => (((H9.out (h.resolve_right (by decide))).other (by rw [Hg2.out]; decide) _)).mono fun v hc h' => hc (h'.resolve_right (by decide)), fun h => (((H10.out (h.resolve_right (by decide))).other (by rw [Hg2.out]; decide) _)).mono fun v hc h' => hc (h'.resolve_right (by decide)), fun h => .inl (g2_0 (h.resolve_right (by decide))), fun h => .inl (g2_1 (h.resolve_right (by decide))), fun h => .inl (g5_3 (h.resolve_right (by decide))), fun h => .inl (g5_4 (h.resolve_right (by decide))), fun h => .inl (g7_6 (h.resolve_right (by decide))), fun _ => .inl d8, fun _ => .inl d2, fun h => .inl (g12_9 (h.resolve_right (by decide))), fun h => .inl (g12_5 (h.resolve_right (by decide))), fun h => .inl (g13_10 (h.resolve_right (by decide))), fun h => .inl (g13_7 (h.resolve_right (by decide)))⟩
    | 12, hi, hA =>
      obtain rfl := Option.some.inj hi
      clear hi
      have d9 := after_of hA 9 (by decide +kernel)
      have d5 := after_of hA 5 (by decide +kernel)
      clear hA
      obtain ⟨g, x, y, rfl, hg1, hg2, hg3, hg4⟩ := h9 d9
      have hv := h5 d5
      obtain ⟨pq, cq, rfl, -⟩ := id hv.dd.ex
      have H0 := Lib.hid h0; have H1 := Lib.hid h1; have H2 := Lib.hid h2; have H3 := Lib.hid h3; have H4 := Lib.hid h4; have H5 := Lib.hid h5; have H6 := Lib.hid h6; have H7 := Lib.hid h7; have H8 := Lib.hid h8; have H10 := Lib.hid h10; have Hb := Lib.hid hb; have HD := Lib.hid hD; have Hv := Lib.hid hv; have Hg1 := Lib.hid hg1; have Hg2 := Lib.hid hg2; have Hg3 := Lib.hid hg3; clear hb hD hv hg1 hg2 hg3 hg4 h0 h1 h2 h3 h4 h5 h6 h7 h8 h9 h10
      go_wp2_with (with_reducible refine wpList_store_row rfl 24 (.tmp 14) (.tmp 45) rfl _ _ rfl rfl _ _ Hg3.out (by kernel_rfl) (by kernel_rfl) (by kernel_rfl) ?_)
      rw [HJ.out]
      exact ⟨f, _, _, _, _, _, _, _, _, _, _, _, rfl, below_setRow Hb.out Hg1.out, fun h => (H0.out (h.resolve_right (by decide))), fun h => (H1.out (h.resolve_right (by decide))), fun h => ((H2.out (h.resolve_right (by decide)))).setRow Hg3.out, fun h => (H3.out (h.resolve_right (by decide))), fun h => (H4.out (h.resolve_right (by decide))), fun _ => Hv.out.setRow Hg3.out, fun h => (H6.out (h.resolve_right (by decide))), fun h => ((H7.out (h.resolve_right (by decide)))).setRow Hg3.out, fun h => (((H8.out (h.resolve_right (by decide))).other (by rw [Hg2.out]; decide) _)).mono fun v hc h' => hc (h'.resolve_right (by decide)), fun _ => ⟨g, _, _, rfl, Hg1.out, Hg2.out, setRow_heap _ _ _ _ _ _ Hg3.out, fun _ => rfl⟩, fun h => (((H10.out (h.resolve_right (by decide))).other (by rw [Hg2.out]; decide) _)).mono fun v hc h' => hc (h'.resolve_right (by decide)), fun h => .inl (g2_0 (h.resolve_right (by decide))), fun h => .inl (g2_1 (h.resolve_right (by decide))), fun h => .inl (g5_3 (h.resolve_right (by decide))), fun h => .inl (g5_4 (h.resolve_right (by decide))), fun h => .inl (g7_6 (h.resolve_right (by decide))), fun h => .inl (g11_8 (h.resolve_right (by decide))), fun h => .inl (g11_2 (h.resolve_right (by decide))), fun _ => .inl d9, fun _ => .inl d5, fun h => .inl (g13_10 (h.resolve_right (by decide))), fun h => .inl (g13_7 (h.resolve_right (by decide)))⟩
    | 13, hi, hA =>
      obtain rfl := Option.some.inj hi
      clear hi
      have d10 := after_of hA 10 (by decide +kernel)
      have d7 := after_of hA 7 (by decide +kernel)
      clear hA
      obtain ⟨g, x, y, rfl, hg1, hg2, hg3, hg4⟩ := h10 d10
      have hv := h7 d7
      obtain ⟨pq, cq, rfl, -⟩ := id hv.dd.ex
      have H0 := Lib.hid h0; have H1 := Lib.hid h1; have H2 := Lib.hid h2; have H3 := Lib.hid h3; have H4 := Lib.hid h4; have H5 := Lib.hid h5; have H6 := Lib.hid h6; have H7 := Lib.hid h7; have H8 := Lib.hid h8; have H9 := Lib.hid h9; have Hb := Lib.hid hb; have HD := Lib.hid hD; have Hv := Lib.hid hv; have Hg1 := Lib.hid hg1; have Hg2 := Lib.hid hg2; have Hg3 := Lib.hid hg3; clear hb hD hv hg1 hg2 hg3 hg4 h0 h1 h2 h3 h4 h5 h6 h7 h8 h9 h10
      go_wp2_with (with_reducible refine wpList_store_row rfl 24 (.tmp 15) (.tmp 47) rfl _ _ rfl rfl _ _ Hg3.out (by kernel_rfl) (by kernel_rfl) (by kernel_rfl) ?_)
      rw [HJ.out]
      exact ⟨f, _, _, _, _, _, _, _, _, _, _, _, rfl, below_setRow Hb.out Hg1.out, fun h => (H0.out (h.resolve_right (by decide))), fun h => (H1.out (h.resolve_right (by decide))), fun h => ((H2.out (h.resolve_right (by decide)))).setRow Hg3.out, fun h => (H3.out (h.resolve_right (by decide))), fun h => (H4.out (h.resolve_right (by decide))), fun h => ((H5.out (h.resolve_right (by decide)))).setRow Hg3.out, fun h => (H6.out (h.resolve_right (by decide))), fun _ => Hv.out.setRow Hg3.out, fun h => (((H8.out (h.resolve_right (by decide))).other (by rw [Hg2.out]; decide) _)).mono fun v hc h' => hc (h'.resolve_right (by decide)), fun h => (((H9.out (h.resolve_right (by decide))).other (by rw [Hg2.out]; decide) _)).mono fun v hc h' => hc (h'.resolve_right (by decide)), fun _ => ⟨g, _, _, rfl, Hg1.out, Hg2.out, setRow_heap _ _ _ _ _ _ Hg3.out, fun _ => rfl⟩, fun h => .inl (g2_0 (h.resolve_right (by decide))), fun h => .inl (g2_1 (h.resolve_right (by decide))), fun h => .inl (g5_3 (h.resolve_right (by decide))), fun h => .inl (g5_4 (h.resolve_right (by decide))), fun h => .inl (g7_6 (h.resolve_right (by decide))), fun h => .inl (g11_8 (h.resolve_right (by decide))), fun h => .inl (g11_2 (h.resolve_right (by decide))), fun h => .inl (g12_9 (h.resolve_right (by decide))), fun h => .inl (g12_5 (h.resolve_right (by decide))), fun _ => .inl d10, fun _ => .inl d7⟩
    | n + 14, hi, hA => cases hi
  · intro D ac w' hall hJ
    rw [HJ.out] at hJ
    obtain ⟨f, s40, s41, s42, s43, s44, s45, s46, s47, s13, s14, s15, rfl, hb, h0, h1, h2, h3, h4, h5, h6, h7, h8, h9, h10, g2_0, g2_1, g5_3, g5_4, g7_6, g11_8, g11_2, g12_9, g12_5, g13_10, g13_7⟩ := hJ
    have hd : ∀ i, i < 14 → D i := hall
    clear hall
    obtain ⟨g1, x1', y1, rfl, hf1, hf2, hf3, hf4⟩ := h8 (hd 8 (by decide))
    obtain ⟨g2, x2, y2, rfl, hf5, hf6, hf7, hf8⟩ := h9 (hd 9 (by decide))
    obtain ⟨g3, x3, y3, rfl, hf9, hf10, hf11, hf12⟩ := h10 (hd 10 (by decide))
    have hx1 := hf4 (hd 11 (by decide))
    have hx2 := hf8 (hd 12 (by decide))
    have hx3 := hf12 (hd 13 (by decide))
    have hv1 := h2 (hd 2 (by decide))
    have hv2 := h5 (hd 5 (by decide))
    have hv3 := h7 (hd 7 (by decide))
    obtain rfl := h0 (hd 0 (by decide))
    obtain rfl := h1 (hd 1 (by decide))
    obtain rfl := h3 (hd 3 (by decide))
    obtain rfl := h4 (hd 4 (by decide))
    obtain rfl := h6 (hd 6 (by decide))
    subst hx1 hx2 hx3
    have W1 := Lib.hid hv1; have W2 := Lib.hid hv2; have W3 := Lib.hid hv3
    have Hr1 := Lib.hid hf3; have Hr2 := Lib.hid hf7; have Hr3 := Lib.hid hf11
    have Bq := Lib.hid (B6.out.step hb)
    have Va1 := Lib.hid (Va.out.below hb); have Vb1 := Lib.hid (Vb.out.below hb)
    have Hra1 := Lib.hid ((hb.block _ hla).trans Hra.out)
    clear HJ J hd h0 h1 h2 h3 h4 h5 h6 h7 h8 h9 h10 hb hf1 hf2 hf3 hf4 hf5 hf6 hf7 hf8 hf9 hf10 hf11 hf12 hv1 hv2 hv3 Hra Hrb Va Vb hla hlb
    have hK : ∀ {K : Act → World → Prop} {Q : Exit → Act → World → Prop} {a : Act} {w : World}, K a w → Exit.then K Q .normal a w := fun h => h
    refine hK ?_
    generalize w' = wz at *
    have hbits := Hbits.out
    have hm4 := Hm4.out
    go_upto_region 8 with fail
    have e16 : wrap64 (bits BinOp.and IntKind.u64 (a : Int) 4095) = (m : Int) := by
      rw [show bits BinOp.and IntKind.u64 (a : Int) 4095 = (m : Int) from hbits]
      unfold wrap64; omega
    rw [e16]
    clear hbits e16
    obtain ⟨z0a, z1a, -⟩ := cells2 Hra1.out
    obtain ⟨z01, z11, -⟩ := cells2 Hr1.out
    obtain ⟨z02, z12, -⟩ := cells2 Hr2.out
    obtain ⟨z03, z13, -⟩ := cells2 Hr3.out
    have La := Lib.hid (heap_lt Hra1.out); have L1 := Lib.hid (heap_lt Hr1.out); have L2 := Lib.hid (heap_lt Hr2.out); have L3 := Lib.hid (heap_lt Hr3.out)
    have B0 := Lib.hid (Below.refl wz.heap.size wz)
    have fab := Fab.out
    have fho := Fho.out
    have fna := Fna.out
    have flo := Flo.out
    cases eA <;> cases eB
    all_goals
      simp only [Bool.and_true, Bool.and_false, Bool.or_true, Bool.or_false, Bool.not_true, Bool.not_false, Bool.and_self, Bool.or_self] at fab fho fna
      have FAB := Lib.hid fab; have FHO := Lib.hid fho; have FNA := Lib.hid fna; have FLO := Lib.hid flo
      clear fab fho fna flo
      go_wp2_with (first
        | (go_at_call 18; ((with_reducible refine (table_bit _ ta m _ Hm4.out _ (Va1.out.below B0.out) FLO.out).mono ?_); rintro e x0 ⟨gt, rfl, hct, q⟩; have B1 := Lib.hid (B0.out.step q); obtain ⟨u0a, t0a, -⟩ := cells2 ((B1.out.block _ La.out).trans Hra1.out); obtain ⟨u01, t01, -⟩ := cells2 ((B1.out.block _ L1.out).trans Hr1.out); obtain ⟨u02, t02, -⟩ := cells2 ((B1.out.block _ L2.out).trans Hr2.out); obtain ⟨u03, t03, -⟩ := cells2 ((B1.out.block _ L3.out).trans Hr3.out); clear q))
        | (go_at_call 11; ((with_reducible refine (valid_tree _ ab _ (W1.out.below B1.out)).mono ?_); rintro e x1 ⟨rfl, q⟩; have B2 := Lib.hid (B1.out.step q); obtain ⟨u1a, t1a, -⟩ := cells2 ((B2.out.block _ La.out).trans Hra1.out); obtain ⟨u11, t11, -⟩ := cells2 ((B2.out.block _ L1.out).trans Hr1.out); obtain ⟨u12, t12, -⟩ := cells2 ((B2.out.block _ L2.out).trans Hr2.out); obtain ⟨u13, t13, -⟩ := cells2 ((B2.out.block _ L3.out).trans Hr3.out); clear q))
        | (go_at_call 11; ((with_reducible refine (valid_tree _ ho _ (W2.out.below B2.out)).mono ?_); rintro e x2 ⟨rfl, q⟩; have B3 := Lib.hid (B2.out.step q); obtain ⟨u2a, t2a, -⟩ := cells2 ((B3.out.block _ La.out).trans Hra1.out); obtain ⟨u21, t21, -⟩ := cells2 ((B3.out.block _ L1.out).trans Hr1.out); obtain ⟨u22, t22, -⟩ := cells2 ((B3.out.block _ L2.out).trans Hr2.out); obtain ⟨u23, t23, -⟩ := cells2 ((B3.out.block _ L3.out).trans Hr3.out); clear q))
        | (go_at_call 11; ((with_reducible refine (valid_tree _ na _ (W3.out.below B3.out)).mono ?_); rintro e x3 ⟨rfl, q⟩; have B4 := Lib.hid (B3.out.step q); obtain ⟨u3a, t3a, -⟩ := cells2 ((B4.out.block _ La.out).trans Hra1.out); obtain ⟨u31, t31, -⟩ := cells2 ((B4.out.block _ L1.out).trans Hr1.out); obtain ⟨u32, t32, -⟩ := cells2 ((B4.out.block _ L2.out).trans Hr2.out); obtain ⟨u33, t33, -⟩ := cells2 ((B4.out.block _ L3.out).trans Hr3.out); clear q))
        | (go_at_call 17; ((with_reducible refine (eval_is _ ab a _ Haa.out _ (W1.out.below B4.out) FAB.out).mono ?_); rintro e x4 ⟨rfl, q⟩; have B5 := Lib.hid (B4.out.step q); obtain ⟨u4a, t4a, -⟩ := cells2 ((B5.out.block _ La.out).trans Hra1.out); obtain ⟨u41, t41, -⟩ := cells2 ((B5.out.block _ L1.out).trans Hr1.out); obtain ⟨u42, t42, -⟩ := cells2 ((B5.out.block _ L2.out).trans Hr2.out); obtain ⟨u43, t43, -⟩ := cells2 ((B5.out.block _ L3.out).trans Hr3.out); clear q))
        | (go_at_call 17; ((with_reducible refine (eval_is _ ho a _ Haa.out _ (W2.out.below B5.out) FHO.out).mono ?_); rintro e x5 ⟨rfl, q⟩; have B6 := Lib.hid (B5.out.step q); obtain ⟨u5a, t5a, -⟩ := cells2 ((B6.out.block _ La.out).trans Hra1.out); obtain ⟨u51, t51, -⟩ := cells2 ((B6.out.block _ L1.out).trans Hr1.out); obtain ⟨u52, t52, -⟩ := cells2 ((B6.out.block _ L2.out).trans Hr2.out); obtain ⟨u53, t53, -⟩ := cells2 ((B6.out.block _ L3.out).trans Hr3.out); clear q))
        | (go_at_call 17; ((with_reducible refine (eval_is _ na a _ Haa.out _ (W3.out.below B6.out) FNA.out).mono ?_); rintro e x6 ⟨rfl, q⟩; have B7 := Lib.hid (B6.out.step q); obtain ⟨u6a, t6a, -⟩ := cells2 ((B7.out.block _ La.out).trans Hra1.out); obtain ⟨u61, t61, -⟩ := cells2 ((B7.out.block _ L1.out).trans Hr1.out); obtain ⟨u62, t62, -⟩ := cells2 ((B7.out.block _ L2.out).trans Hr2.out); obtain ⟨u63, t63, -⟩ := cells2 ((B7.out.block _ L3.out).trans Hr3.out); clear q))
        | (go_at_call 9; ((with_reducible refine (awake_any _).mono ?_); rintro e x7 ⟨rfl, q⟩; have B8 := Lib.hid (B7.out.step q); obtain ⟨u7a, t7a, -⟩ := cells2 ((B8.out.block _ La.out).trans Hra1.out); obtain ⟨u71, t71, -⟩ := cells2 ((B8.out.block _ L1.out).trans Hr1.out); obtain ⟨u72, t72, -⟩ := cells2 ((B8.out.block _ L2.out).trans Hr2.out); obtain ⟨u73, t73, -⟩ := cells2 ((B8.out.block _ L3.out).trans Hr3.out); clear q)))
      go_ret
      exact ⟨rfl, Bq.out.step B8.out⟩
end Go.Proofs.Ytkppcibffbnhoaa
