/-
  Walks: DiagramValid.
-/
import Derived.Test.YtkppcibffbnhoaaI3
namespace Go.Proofs.Ytkppcibffbnhoaa
open Go.RowKit
set_option maxRecDepth 100000

set_option maxHeartbeats 32000000 in
theorem validlaw_walk (p0 : Option Addr) (N0 : List IT) (cp0 : Nat) (r0 : Int) (P1 : Option Addr) (n1 c1 : Nat) (ps1 : List IP) (ki ji : Int) (hki : -9223372036854775808 ≤ ki ∧ ki ≤ 9223372036854775807) (hji : -9223372036854775808 ≤ ji ∧ ji ≤ 9223372036854775807) (w : World) (hni : NI w p0 N0) (h1 : PS w P1 n1 ps1) :
    Calls Try.prog 3 #[.agg #[.slice p0 N0.length cp0, .int .i64 r0], .slice P1 n1 c1, .int .i64 ki, .int .i64 ji] w (ER true w) := by
  have hA : Below w.heap.size w (w.alloc (.cells #[.slice p0 N0.length cp0, .int .i64 r0] 24)) := (Below.refl w.heap.size w).alloc (Nat.le_refl _) _
  have hnA := heap_alloc_new w (.cells #[.slice p0 N0.length cp0, .int .i64 r0] 24)
  obtain ⟨g0, hg0⟩ := good_bool N0 r0
  obtain ⟨n0, hn0⟩ : ∃ n, n = N0.length := ⟨_, rfl⟩
  have HA := Lib.hid hA; have HnA := Lib.hid hnA
  have Hni := Lib.hid (hni.below hA); have Hps := Lib.hid (h1.below hA)
  have Hg0 := Lib.hid hg0; have Hn0 := Lib.hid hn0
  rw [← hn0] at HnA HA Hni Hps
  rw [← hn0]
  clear hni h1 hg0 hA hnA hn0
  by_cases hlen : 20 < n0
  case pos =>
    have f1 : decide (20 < n0) = true := by simp; omega
    have f2 : decide ((20 : Int) < (n0 : Int)) = true := by simp; omega
    go_enter Try.func3, Try.ntmps3
    go_upto_region 1 with fail
    generalize w.alloc (.cells #[.slice p0 n0 cp0, .int .i64 r0] 24) = wd at *
    obtain ⟨z0d, z1d, -⟩ := cells2 HnA.out
    go_wp2_with (go_at_call 9; refine (awake_any _).mono ?_; rintro e w9 ⟨rfl, q9⟩; have Q9 := Lib.hid q9; clear q9)
    go_ret
    exact ⟨rfl, HA.out.step Q9.out⟩
  have f1 : decide (20 < n0) = false := by simp; omega
  have f2 : decide ((20 : Int) < (n0 : Int)) = false := by simp; omega
  go_enter Try.func3, Try.ntmps3
  go_upto_region 1 with fail
  generalize w.alloc (.cells #[.slice p0 n0 cp0, .int .i64 r0] 24) = wd at *
  obtain ⟨z0d, z1d, -⟩ := cells2 HnA.out
  have hd1 := (drawn_any P1 n1 c1 ps1 wd Hps.out).mono fun _ _ => DR.parts
  have Hd1 := Lib.hid hd1; clear hd1
  go_upto_region 4 with (go_at_call 10; refine Hd1.out.mono ?_; rintro e w1 ⟨p1, m1, k1, r1, b1, rfl, q1, ht1⟩; have Q1 := Lib.hid q1; have HT1 := Lib.hid ht1; clear q1 ht1)
  clear z0d z1d Hd1
  have hal1 : Below w1.heap.size w1 (w1.alloc (.cells #[.slice p1 m1 k1, .int .i64 r1] 24)) := (Below.refl _ _).alloc (Nat.le_refl _) _
  have hn1 := heap_alloc_new w1 (.cells #[.slice p1 m1 k1, .int .i64 r1] 24)
  generalize w1.alloc (.cells #[.slice p1 m1 k1, .int .i64 r1] 24) = wb at *
  have hdb := Q1.out.step hal1
  have A1 := Lib.hid hal1; have N1 := Lib.hid hn1; have Bb := Lib.hid (HA.out.step hdb)
  have Hrd := Lib.hid ((hdb.block _ (heap_lt HnA.out)).trans HnA.out)
  have Hni1 := Lib.hid (Hni.out.below hdb)
  clear hal1 hn1 hdb
  have hNle : N0.length ≤ 65536 := by have := Hn0.out; omega
  have HNle := Lib.hid hNle; clear hNle
  cases b1
  case false =>
    go_upto_region 5 with fail
    cases g0
    all_goals
      have Y0d := Lib.hid (show wb.drew.cell? ⟨w.heap.size, 0, none⟩ = _ from (cells2 Hrd.out).1)
      have Ld := Lib.hid (show w.heap.size < wb.drew.heap.size from heap_lt Hrd.out)
      have Rd := Lib.hid (show wb.drew.heap[w.heap.size]? = _ from Hrd.out)
      have B0 := Lib.hid (show Below wb.heap.size wb wb.drew from (Below.refl _ _).drew)
      obtain ⟨z0d, z1d, -⟩ := cells2 Hrd.out
      go_wp2_with (first
        | ((with_reducible refine Lex.at_finK ?_); refine LexK.finE_on (by kernel_rfl) (by repeat first | exact LexK.finL_nil | refine LexK.finL_none rfl ?_ | refine LexK.finL_skip (by decide +kernel) ?_ | refine LexK.finL_take rfl Ld.out Y0d.out ?_) ?_)
        | ((with_reducible refine Lex.at_region ?_); refine LexK.wp_region_lexE (fun x => x < wb.drew.heap.size) (by kernel_rfl) (by decide +kernel) ?_)
        | ((with_reducible refine Lex.at_wpX ?_); with_reducible refine LexK.wpX_plain (by decide +kernel) ?_)
        | ((with_reducible refine Lex.at_wpX ?_); with_reducible refine LexK.wpX_call ?_)
        | ((with_reducible refine Lex.at_wpX ?_); with_reducible refine LexK.wpX_nil ?_)
        | ((with_reducible refine Lex.at_ext ?_); with_reducible refine LexK.ext_on Hext.out ?_)
        | (go_at_call 11; ((with_reducible refine (valid_is _ _ _ N0 r0 _ _ Hn0.out (Hni1.out.below B0.out) HNle.out Hg0.out).mono ?_); rintro e x0 ⟨rfl, q⟩;  have Hext := Lib.hid (LexK.Ext.of_below (Kp := fun x => x < wb.drew.heap.size) q (Nat.le_refl _)); have B1 := Lib.hid (B0.out.step q); have q0 : Below wb.drew.heap.size wb.drew x0 := q; have Q0 := Lib.hid q0; obtain ⟨u0d, t0d, -⟩ := cells2 ((q0.block _ Ld.out).trans Rd.out); clear q q0))
        | (go_at_call 12; ((with_reducible refine (validd_is _ _ _ N0 r0 _ _ Hn0.out (Hni1.out.below B1.out) HNle.out Hg0.out).mono ?_); rintro e x1 ⟨rfl, q⟩;  have Hext := Lib.hid (LexK.Ext.of_below (Kp := fun x => x < wb.drew.heap.size) q (Nat.le_refl _)); have B2 := Lib.hid (B1.out.step q); have q0 : Below wb.drew.heap.size wb.drew x1 := Q0.out.trans (q.mono Q0.out.size); have Q1 := Lib.hid q0; obtain ⟨u1d, t1d, -⟩ := cells2 ((q0.block _ Ld.out).trans Rd.out); clear q q0))
        | (go_at_call 9; ((with_reducible refine (awake_any _).mono ?_); rintro e x2 ⟨rfl, q⟩;  have Hext := Lib.hid (LexK.Ext.of_below (Kp := fun x => x < wb.drew.heap.size) q (Nat.le_refl _)); have B3 := Lib.hid (B2.out.step q); have q0 : Below wb.drew.heap.size wb.drew x2 := Q1.out.trans (q.mono Q1.out.size); have Q2 := Lib.hid q0; obtain ⟨u2d, t2d, -⟩ := cells2 ((q0.block _ Ld.out).trans Rd.out); clear q q0)))
      go_ret
      exact ⟨rfl, Bb.out.step B3.out⟩
  obtain ⟨ta, da, -⟩ := HT1.out rfl
  obtain ⟨hm1, hr1, hns, -⟩ := id da.good
  have hcl := canon_len da.ok
  obtain ⟨NT, hNT⟩ : ∃ N, N = canonN ta := ⟨_, rfl⟩
  rw [← hNT] at hm1 hns hcl
  have Va := Lib.hid (da.below A1.out)
  have Hns := Lib.hid (hns.below A1.out)
  subst hm1
  clear hns da hr1 HT1 hNT
  go_upto_region 6 with fail
  obtain ⟨J, hJd⟩ : ∃ J : (Nat → Prop) → Act → World → Prop, J = fun (D : Nat → Prop) (ac : Act) (w' : World) => ∃ (f : Nat → Nat) (s33 s34 s35 s36 s37 s38 s11 : Value), ac = ⟨((.agg #[.slice p0 n0 cp0, .int .i64 r0]) :: (.slice P1 n1 c1) :: (.int .i64 ki) :: (.int .i64 ji) :: (.pointer (some ⟨w.heap.size, 0, none⟩)) :: undef :: undef :: undef :: (.bool false) :: (.pointer (some ⟨w1.heap.size, 0, none⟩)) :: (.bool true) :: s11 :: undef :: (.pointer (some ⟨w.heap.size, 0, none⟩)) :: (.slice p0 n0 cp0) :: (.int .i64 n0) :: (.bool false) :: undef :: (.tuple #[(.agg #[.slice p1 NT.length k1, .int .i64 r1]), .bool true]) :: (.slice P1 n1 c1) :: (.tuple #[(.agg #[.slice p1 NT.length k1, .int .i64 r1]), .bool true]) :: (.agg #[.slice p1 NT.length k1, .int .i64 r1]) :: (.bool true) :: (.bool true) :: (.bool false) :: undef :: undef :: undef :: undef :: undef :: undef :: undef :: undef :: s33 :: s34 :: s35 :: s36 :: s37 :: s38 :: undef :: undef :: undef :: undef :: undef :: undef :: undef :: undef :: undef :: undef :: undef :: undef :: undef :: undef :: undef :: undef :: undef :: undef :: undef :: undef :: undef :: undef :: undef :: undef :: undef :: undef :: undef :: undef :: undef :: undef :: undef :: undef :: undef :: undef :: undef :: undef :: undef :: undef :: undef :: undef :: undef :: undef :: undef :: undef :: undef :: []).toArray, []⟩ ∧ Below wb.heap.size wb w' ∧ (D 0 → s33 = (.pointer (some ⟨w1.heap.size, 0, none⟩))) ∧ (D 1 → s34 = (.slice p1 NT.length k1)) ∧ (D 2 → w'.ownsRow wb.heap.size 32 3 s35 NT.length (triCells NT)) ∧ (D 3 → s36 = (.pointer (some ⟨w1.heap.size, 1, none⟩))) ∧ (D 4 → s37 = (.int .i64 r1)) ∧ (D 5 → ∃ q5 c5, s38 = .agg #[.slice q5 NT.length c5, .int .i64 r1] ∧ s35 = .slice q5 NT.length c5) ∧ (D 6 → LC f wb.heap.size 6 w' s11 fun v => D 7 → v = s38) ∧ (D 1 → D 0) ∧ (D 2 → D 1) ∧ (D 4 → D 3) ∧ (D 5 → D 2) ∧ (D 5 → D 4) ∧ (D 7 → D 6) ∧ (D 7 → D 5) := ⟨_, rfl⟩
  have HJ := Lib.hid hJd; clear hJd
  refine Inv.wp_region_inv J (by kernel_rfl) (by decide +kernel) ?_ ?_ ?_
  · rw [HJ.out]
    exact ⟨fun _ => 0, _, _, _, _, _, _, _, rfl, (Below.refl _ _).drew, fun h => h.elim, fun h => h.elim, fun h => h.elim, fun h => h.elim, fun h => h.elim, fun h => h.elim, fun h => h.elim, fun h => h.elim, fun h => h.elim, fun h => h.elim, fun h => h.elim, fun h => h.elim, fun h => h.elim, fun h => h.elim⟩
  · intro i op hi D ac w' hD hA hJ
    rw [HJ.out] at hJ
    obtain ⟨f, s33, s34, s35, s36, s37, s38, s11, rfl, hb, h0, h1, h2, h3, h4, h5, h6, g1_0, g2_1, g4_3, g5_2, g5_4, g7_6, g7_5⟩ := hJ
    match i, hi, hA with
    | 0, hi, hA =>
      obtain rfl := Option.some.inj hi
      clear hi
      clear hA
      have H0 := Lib.hid h0; have H1 := Lib.hid h1; have H2 := Lib.hid h2; have H3 := Lib.hid h3; have H4 := Lib.hid h4; have H5 := Lib.hid h5; have H6 := Lib.hid h6; have Hb := Lib.hid hb; have HD := Lib.hid hD; clear hb hD h0 h1 h2 h3 h4 h5 h6
      go_wp2
      rw [HJ.out]
      exact ⟨f, _, _, _, _, _, _, _, rfl, Hb.out, fun _ => rfl, fun h => (H1.out (h.resolve_right (by decide))), fun h => (H2.out (h.resolve_right (by decide))), fun h => (H3.out (h.resolve_right (by decide))), fun h => (H4.out (h.resolve_right (by decide))), fun h => (H5.out (h.resolve_right (by decide))), fun h => ((H6.out (h.resolve_right (by decide)))).mono fun v hc h' => hc (h'.resolve_right (by decide)), fun _ => .inr rfl, fun h => .inl (g2_1 (h.resolve_right (by decide))), fun h => .inl (g4_3 (h.resolve_right (by decide))), fun h => .inl (g5_2 (h.resolve_right (by decide))), fun h => .inl (g5_4 (h.resolve_right (by decide))), fun h => .inl (g7_6 (h.resolve_right (by decide))), fun h => .inl (g7_5 (h.resolve_right (by decide)))⟩
    | 1, hi, hA =>
      obtain rfl := Option.some.inj hi
      clear hi
      have d0 := after_of hA 0 (by decide +kernel)
      clear hA
      obtain rfl := h0 d0
      obtain ⟨c0, c1', -⟩ := cells2 ((hb.block _ (heap_lt N1.out)).trans N1.out)
      have H0 := Lib.hid h0; have H1 := Lib.hid h1; have H2 := Lib.hid h2; have H3 := Lib.hid h3; have H4 := Lib.hid h4; have H5 := Lib.hid h5; have H6 := Lib.hid h6; have Hb := Lib.hid hb; have HD := Lib.hid hD; clear hb hD h0 h1 h2 h3 h4 h5 h6
      go_wp2
      rw [HJ.out]
      exact ⟨f, _, _, _, _, _, _, _, rfl, Hb.out, fun _ => rfl, fun _ => rfl, fun h => (H2.out (h.resolve_right (by decide))), fun h => (H3.out (h.resolve_right (by decide))), fun h => (H4.out (h.resolve_right (by decide))), fun h => (H5.out (h.resolve_right (by decide))), fun h => ((H6.out (h.resolve_right (by decide)))).mono fun v hc h' => hc (h'.resolve_right (by decide)), fun _ => .inl d0, fun _ => .inr rfl, fun h => .inl (g4_3 (h.resolve_right (by decide))), fun h => .inl (g5_2 (h.resolve_right (by decide))), fun h => .inl (g5_4 (h.resolve_right (by decide))), fun h => .inl (g7_6 (h.resolve_right (by decide))), fun h => .inl (g7_5 (h.resolve_right (by decide)))⟩
    | 2, hi, hA =>
      obtain rfl := Option.some.inj hi
      clear hi
      have d1 := after_of hA 1 (by decide +kernel)
      clear hA
      obtain rfl := h1 d1
      have hbz := hb.size
      have hrc := (Hns.out.below hb).rc
      have Hbz := Lib.hid hbz; have Hrc := Lib.hid hrc; clear hrc hbz
      have H0 := Lib.hid h0; have H1 := Lib.hid h1; have H2 := Lib.hid h2; have H3 := Lib.hid h3; have H4 := Lib.hid h4; have H5 := Lib.hid h5; have H6 := Lib.hid h6; have Hb := Lib.hid hb; have HD := Lib.hid hD; clear hb hD h0 h1 h2 h3 h4 h5 h6
      go_wp2_with (at_builtin; go_loud (refine wpList_append_ownrc rfl (.const (.slice none 0 0)) (.tmp 34) 22 rfl 32 (by kernel_rfl) tri_info rfl (by decide) (by decide) wb.heap.size _ p1 0 NT.length k1 [] (triCells NT) Hbz.out (.slice none 0 0) rfl rfl (World.ownsRow_nil _ _ _ _) Hrc.out (tri_one _) (by omega) ?_); intro v3 w3 ho3 hf3; have Ho3 := Lib.hid ho3; have Hq := Lib.hid (hf3.below (Nat.le_refl _) (by simp) (by simp [Value.ownBlock])); clear ho3 hf3)
      rw [HJ.out]
      exact ⟨fu f w'.heap.size 2, _, _, _, _, _, _, _, rfl, Hb.out.trans (Hq.out.mono Hb.out.size), fun h => (H0.out (h.resolve_right (by decide))), fun _ => rfl, fun _ => (by simpa using Ho3.out), fun h => (H3.out (h.resolve_right (by decide))), fun h => (H4.out (h.resolve_right (by decide))), fun h => (HD.out (g5_2 (h.resolve_right (by decide)))).elim, fun h => (((H6.out (h.resolve_right (by decide))).grow Hq.out)).mono fun v hc h' => hc (h'.resolve_right (by decide)), fun h => .inl (g1_0 (h.resolve_right (by decide))), fun _ => .inl d1, fun h => .inl (g4_3 (h.resolve_right (by decide))), fun _ => .inr rfl, fun h => .inl (g5_4 (h.resolve_right (by decide))), fun h => .inl (g7_6 (h.resolve_right (by decide))), fun h => .inl (g7_5 (h.resolve_right (by decide)))⟩
    | 3, hi, hA =>
      obtain rfl := Option.some.inj hi
      clear hi
      clear hA
      have H0 := Lib.hid h0; have H1 := Lib.hid h1; have H2 := Lib.hid h2; have H3 := Lib.hid h3; have H4 := Lib.hid h4; have H5 := Lib.hid h5; have H6 := Lib.hid h6; have Hb := Lib.hid hb; have HD := Lib.hid hD; clear hb hD h0 h1 h2 h3 h4 h5 h6
      go_wp2
      rw [HJ.out]
      exact ⟨f, _, _, _, _, _, _, _, rfl, Hb.out, fun h => (H0.out (h.resolve_right (by decide))), fun h => (H1.out (h.resolve_right (by decide))), fun h => (H2.out (h.resolve_right (by decide))), fun _ => rfl, fun h => (H4.out (h.resolve_right (by decide))), fun h => (H5.out (h.resolve_right (by decide))), fun h => ((H6.out (h.resolve_right (by decide)))).mono fun v hc h' => hc (h'.resolve_right (by decide)), fun h => .inl (g1_0 (h.resolve_right (by decide))), fun h => .inl (g2_1 (h.resolve_right (by decide))), fun _ => .inr rfl, fun h => .inl (g5_2 (h.resolve_right (by decide))), fun h => .inl (g5_4 (h.resolve_right (by decide))), fun h => .inl (g7_6 (h.resolve_right (by decide))), fun h => .inl (g7_5 (h.resolve_right (by decide)))⟩
    | 4, hi, hA =>
      obtain rfl := Option.some.inj hi
      clear hi
      have d3 := after_of hA 3 (by decide +kernel)
      clear hA
      obtain rfl := h3 d3
      obtain ⟨c0, c1', -⟩ := cells2 ((hb.block _ (heap_lt N1.out)).trans N1.out)
      have H0 := Lib.hid h0; have H1 := Lib.hid h1; have H2 := Lib.hid h2; have H3 := Lib.hid h3; have H4 := Lib.hid h4; have H5 := Lib.hid h5; have H6 := Lib.hid h6; have Hb := Lib.hid hb; have HD := Lib.hid hD; clear hb hD h0 h1 h2 h3 h4 h5 h6
      go_wp2
      rw [HJ.out]
      exact ⟨f, _, _, _, _, _, _, _, rfl, Hb.out, fun h => (H0.out (h.resolve_right (by decide))), fun h => (H1.out (h.resolve_right (by decide))), fun h => (H2.out (h.resolve_right (by decide))), fun _ => rfl, fun _ => rfl, fun h => (H5.out (h.resolve_right (by decide))), fun h => ((H6.out (h.resolve_right (by decide)))).mono fun v hc h' => hc (h'.resolve_right (by decide)), fun h => .inl (g1_0 (h.resolve_right (by decide))), fun h => .inl (g2_1 (h.resolve_right (by decide))), fun _ => .inl d3, fun h => .inl (g5_2 (h.resolve_right (by decide))), fun _ => .inr rfl, fun h => .inl (g7_6 (h.resolve_right (by decide))), fun h => .inl (g7_5 (h.resolve_right (by decide)))⟩
    | 5, hi, hA =>
      obtain rfl := Option.some.inj hi
      clear hi
      have d2 := after_of hA 2 (by decide +kernel)
      have d4 := after_of hA 4 (by decide +kernel)
      clear hA
      obtain ⟨q5, c5, rfl⟩ := own_slice (h2 d2)
      obtain rfl := h4 d4
      have H0 := Lib.hid h0; have H1 := Lib.hid h1; have H2 := Lib.hid h2; have H3 := Lib.hid h3; have H4 := Lib.hid h4; have H5 := Lib.hid h5; have H6 := Lib.hid h6; have Hb := Lib.hid hb; have HD := Lib.hid hD; clear hb hD h0 h1 h2 h3 h4 h5 h6
      go_wp2
      rw [HJ.out]
      exact ⟨f, _, _, _, _, _, _, _, rfl, Hb.out, fun h => (H0.out (h.resolve_right (by decide))), fun h => (H1.out (h.resolve_right (by decide))), fun h => (H2.out (h.resolve_right (by decide))), fun h => (H3.out (h.resolve_right (by decide))), fun _ => rfl, fun _ => ⟨_, _, rfl, rfl⟩, fun h => ((H6.out (h.resolve_right (by decide)))).mono fun v hc h' => (HD.out (g7_5 (h'.resolve_right (by decide)))).elim, fun h => .inl (g1_0 (h.resolve_right (by decide))), fun h => .inl (g2_1 (h.resolve_right (by decide))), fun h => .inl (g4_3 (h.resolve_right (by decide))), fun _ => .inl d2, fun _ => .inl d4, fun h => .inl (g7_6 (h.resolve_right (by decide))), fun _ => .inr rfl⟩
    | 6, hi, hA =>
      obtain rfl := Option.some.inj hi
      clear hi
      clear hA
      have hst : ¬ D 7 := fun h => hD (g7_6 h)
      have H0 := Lib.hid h0; have H1 := Lib.hid h1; have H2 := Lib.hid h2; have H3 := Lib.hid h3; have H4 := Lib.hid h4; have H5 := Lib.hid h5; have H6 := Lib.hid h6; have Hb := Lib.hid hb; have HD := Lib.hid hD; clear hb hD h0 h1 h2 h3 h4 h5 h6; have Hst := Lib.hid hst; clear hst
      go_wp2
      have Hq := Lib.hid ((Below.refl w'.heap.size w').alloc (Nat.le_refl _) (.cells #[.slice none 0 0, .int .i64 0] 24))
      rw [HJ.out]
      exact ⟨fu f w'.heap.size 6, _, _, _, _, _, _, _, rfl, Hb.out.trans (Hq.out.mono Hb.out.size), fun h => (H0.out (h.resolve_right (by decide))), fun h => (H1.out (h.resolve_right (by decide))), fun h => ownsRow_below (H2.out (h.resolve_right (by decide))) Hq.out (Nat.le_refl _), fun h => (H3.out (h.resolve_right (by decide))), fun h => (H4.out (h.resolve_right (by decide))), fun h => (H5.out (h.resolve_right (by decide))), fun _ => LC.new _ _ Hb.out.size fun h => (Hst.out (h.resolve_right (by decide))).elim, fun h => .inl (g1_0 (h.resolve_right (by decide))), fun h => .inl (g2_1 (h.resolve_right (by decide))), fun h => .inl (g4_3 (h.resolve_right (by decide))), fun h => .inl (g5_2 (h.resolve_right (by decide))), fun h => .inl (g5_4 (h.resolve_right (by decide))), fun _ => .inr rfl, fun h => .inl (g7_5 (h.resolve_right (by decide)))⟩
    | 7, hi, hA =>
      obtain rfl := Option.some.inj hi
      clear hi
      have d6 := after_of hA 6 (by decide +kernel)
      have d5 := after_of hA 5 (by decide +kernel)
      clear hA
      obtain ⟨g, x, y, rfl, hg1, hg2, hg3, hg4⟩ := h6 d6
      obtain ⟨q5, c5, rfl, hv⟩ := h5 d5
      have H0 := Lib.hid h0; have H1 := Lib.hid h1; have H2 := Lib.hid h2; have H3 := Lib.hid h3; have H4 := Lib.hid h4; have H5 := Lib.hid h5; have Hb := Lib.hid hb; have HD := Lib.hid hD; have Hv := Lib.hid hv; have Hg1 := Lib.hid hg1; have Hg2 := Lib.hid hg2; have Hg3 := Lib.hid hg3; clear hb hD hv hg1 hg2 hg3 hg4 h0 h1 h2 h3 h4 h5 h6
      go_wp2_with (with_reducible refine wpList_store_row rfl 24 (.tmp 11) (.tmp 38) rfl _ _ rfl rfl _ _ Hg3.out (by kernel_rfl) (by kernel_rfl) (by kernel_rfl) ?_)
      rw [HJ.out]
      exact ⟨f, _, _, _, _, _, _, _, rfl, below_setRow Hb.out Hg1.out, fun h => (H0.out (h.resolve_right (by decide))), fun h => (H1.out (h.resolve_right (by decide))), fun h => ownsRow_at (H2.out (h.resolve_right (by decide))) (fun g5 hg5 => setRow_other _ _ _ _ (fun e5 => own_ne' (H2.out (h.resolve_right (by decide))) Hg3.out (by decide) (e5 ▸ hg5))), fun h => (H3.out (h.resolve_right (by decide))), fun h => (H4.out (h.resolve_right (by decide))), fun _ => ⟨_, _, rfl, Hv.out⟩, fun _ => ⟨g, _, _, rfl, Hg1.out, Hg2.out, setRow_heap _ _ _ _ _ _ Hg3.out, fun _ => rfl⟩, fun h => .inl (g1_0 (h.resolve_right (by decide))), fun h => .inl (g2_1 (h.resolve_right (by decide))), fun h => .inl (g4_3 (h.resolve_right (by decide))), fun h => .inl (g5_2 (h.resolve_right (by decide))), fun h => .inl (g5_4 (h.resolve_right (by decide))), fun _ => .inl d6, fun _ => .inl d5⟩
    | n + 8, hi, hA => cases hi
  · intro D ac w' hall hJ
    rw [HJ.out] at hJ
    obtain ⟨f, s33, s34, s35, s36, s37, s38, s11, rfl, hb, h0, h1, h2, h3, h4, h5, h6, g1_0, g2_1, g4_3, g5_2, g5_4, g7_6, g7_5⟩ := hJ
    have hd : ∀ i, i < 8 → D i := hall
    clear hall
    obtain ⟨ge, xe, ye, rfl, hf1, hf2, hf3, hf4⟩ := h6 (hd 6 (by decide))
    have hx1 := hf4 (hd 7 (by decide))
    have ho := h2 (hd 2 (by decide))
    obtain rfl := h0 (hd 0 (by decide))
    obtain rfl := h1 (hd 1 (by decide))
    obtain rfl := h3 (hd 3 (by decide))
    obtain rfl := h4 (hd 4 (by decide))
    obtain ⟨q5, c5, rfl, rfl⟩ := h5 (hd 5 (by decide))
    cases hx1
    have Ho := Lib.hid ho; have Hre := Lib.hid hf3; have Hge := Lib.hid hf1
    have Bz := Lib.hid hb
    have Va1 := Lib.hid (Va.out.below hb)
    have Hni2 := Lib.hid (Hni1.out.below hb)
    have Hrd1 := Lib.hid ((hb.block _ (heap_lt Hrd.out)).trans Hrd.out)
    have Hrp1 := Lib.hid ((hb.block _ (heap_lt N1.out)).trans N1.out)
    have Hle := Lib.hid (heap_lt N1.out); have Hld := Lib.hid (heap_lt Hrd.out)
    clear HJ J hd h0 h1 h2 h3 h4 h5 h6 hb hf1 hf2 hf3 hf4 ho
    have hK : ∀ {K : Act → World → Prop} {Q : Exit → Act → World → Prop} {a : Act} {w : World}, K a w → Exit.then K Q .normal a w := fun h => h
    refine hK ?_
    generalize w' = wz at *
    obtain ⟨zee, zee1, -⟩ := cells2 Hre.out
    by_cases hz : NT.length = 0
    case pos =>
      have f3 : decide (0 < NT.length) = false := decide_eq_false (by omega)
      have f4 : decide ((0 : Int) < (NT.length : Int)) = false := decide_eq_false (by omega)
      have hni3 : NI wz q5 (cN NT) := fun k hk => absurd hk (by rw [cN_length]; omega)
      have Hni3 := Lib.hid hni3; clear hni3 hz
      have Hcl := Lib.hid (show (cN NT).length ≤ 65536 by rw [cN_length]; omega)
      obtain ⟨g2, hg2⟩ := good_bool (cN NT) r1
      have Hg2 := Lib.hid hg2; clear hg2
      go_upto_region 10 with fail
      clear zee zee1
      cases g0 <;> cases g2
      all_goals
        have Y0d := Lib.hid (show wz.drew.cell? ⟨w.heap.size, 0, none⟩ = _ from (cells2 Hrd1.out).1)
        have Ld := Lib.hid (show w.heap.size < wz.drew.heap.size from heap_lt Hrd1.out)
        have Rd := Lib.hid (show wz.drew.heap[w.heap.size]? = _ from Hrd1.out)
        have Y0p := Lib.hid (show wz.drew.cell? ⟨w1.heap.size, 0, none⟩ = _ from (cells2 Hrp1.out).1)
        have Lp := Lib.hid (show w1.heap.size < wz.drew.heap.size from heap_lt Hrp1.out)
        have Rp := Lib.hid (show wz.drew.heap[w1.heap.size]? = _ from Hrp1.out)
        have Y0e := Lib.hid (show wz.drew.cell? ⟨ge, 0, none⟩ = _ from (cells2 Hre.out).1)
        have Le := Lib.hid (show ge < wz.drew.heap.size from heap_lt Hre.out)
        have Re := Lib.hid (show wz.drew.heap[ge]? = _ from Hre.out)
        have B0 := Lib.hid (show Below wz.heap.size wz wz.drew from (Below.refl _ _).drew)
        obtain ⟨z0d, z1d, -⟩ := cells2 Hrd1.out
        obtain ⟨z0p, z1p, -⟩ := cells2 Hrp1.out
        obtain ⟨z0e, z1e, -⟩ := cells2 Hre.out
        go_wp2_with (first
          | ((with_reducible refine Lex.at_finK ?_); refine LexK.finE_on (by kernel_rfl) (by repeat first | exact LexK.finL_nil | refine LexK.finL_none rfl ?_ | refine LexK.finL_skip (by decide +kernel) ?_ | refine LexK.finL_take rfl Ld.out Y0d.out ?_ | refine LexK.finL_take rfl Lp.out Y0p.out ?_ | refine LexK.finL_take rfl Le.out Y0e.out ?_) ?_)
          | ((with_reducible refine Lex.at_region ?_); refine LexK.wp_region_lexE (fun x => x < wz.drew.heap.size) (by kernel_rfl) (by decide +kernel) ?_)
          | ((with_reducible refine Lex.at_wpX ?_); with_reducible refine LexK.wpX_plain (by decide +kernel) ?_)
          | ((with_reducible refine Lex.at_wpX ?_); with_reducible refine LexK.wpX_call ?_)
          | ((with_reducible refine Lex.at_wpX ?_); with_reducible refine LexK.wpX_nil ?_)
          | ((with_reducible refine Lex.at_ext ?_); with_reducible refine LexK.ext_on Hext.out ?_)
          | (go_at_call 11; ((with_reducible refine (valid_is _ _ _ N0 r0 _ _ Hn0.out (Hni2.out.below B0.out) HNle.out Hg0.out).mono ?_); rintro e x0 ⟨rfl, q⟩;  have Hext := Lib.hid (LexK.Ext.of_below (Kp := fun x => x < wz.drew.heap.size) q (Nat.le_refl _)); have B1 := Lib.hid (B0.out.step q); have q0 : Below wz.drew.heap.size wz.drew x0 := q; have Q0 := Lib.hid q0; obtain ⟨u0d, t0d, -⟩ := cells2 ((q0.block _ Ld.out).trans Rd.out); obtain ⟨u0p, t0p, -⟩ := cells2 ((q0.block _ Lp.out).trans Rp.out); obtain ⟨u0e, t0e, -⟩ := cells2 ((q0.block _ Le.out).trans Re.out); clear q q0))
          | (go_at_call 12; ((with_reducible refine (validd_is _ _ _ N0 r0 _ _ Hn0.out (Hni2.out.below B1.out) HNle.out Hg0.out).mono ?_); rintro e x1 ⟨rfl, q⟩;  have Hext := Lib.hid (LexK.Ext.of_below (Kp := fun x => x < wz.drew.heap.size) q (Nat.le_refl _)); have B2 := Lib.hid (B1.out.step q); have q0 : Below wz.drew.heap.size wz.drew x1 := Q0.out.trans (q.mono Q0.out.size); have Q1 := Lib.hid q0; obtain ⟨u1d, t1d, -⟩ := cells2 ((q0.block _ Ld.out).trans Rd.out); obtain ⟨u1p, t1p, -⟩ := cells2 ((q0.block _ Lp.out).trans Rp.out); obtain ⟨u1e, t1e, -⟩ := cells2 ((q0.block _ Le.out).trans Re.out); clear q q0))
          | (go_at_call 11; ((with_reducible refine (valid_tree _ ta _ (Va1.out.below B2.out)).mono ?_); rintro e x2 ⟨rfl, q⟩;  have Hext := Lib.hid (LexK.Ext.of_below (Kp := fun x => x < wz.drew.heap.size) q (Nat.le_refl _)); have B3 := Lib.hid (B2.out.step q); have q0 : Below wz.drew.heap.size wz.drew x2 := Q1.out.trans (q.mono Q1.out.size); have Q2 := Lib.hid q0; obtain ⟨u2d, t2d, -⟩ := cells2 ((q0.block _ Ld.out).trans Rd.out); obtain ⟨u2p, t2p, -⟩ := cells2 ((q0.block _ Lp.out).trans Rp.out); obtain ⟨u2e, t2e, -⟩ := cells2 ((q0.block _ Le.out).trans Re.out); clear q q0))
          | (go_at_call 11; ((with_reducible refine (valid_is _ _ _ (cN NT) r1 _ _ (cN_length _).symm (Hni3.out.below B3.out) Hcl.out Hg2.out).mono ?_); rintro e x3 ⟨rfl, q⟩;  have Hext := Lib.hid (LexK.Ext.of_below (Kp := fun x => x < wz.drew.heap.size) q (Nat.le_refl _)); have B4 := Lib.hid (B3.out.step q); have q0 : Below wz.drew.heap.size wz.drew x3 := Q2.out.trans (q.mono Q2.out.size); have Q3 := Lib.hid q0; obtain ⟨u3d, t3d, -⟩ := cells2 ((q0.block _ Ld.out).trans Rd.out); obtain ⟨u3p, t3p, -⟩ := cells2 ((q0.block _ Lp.out).trans Rp.out); obtain ⟨u3e, t3e, -⟩ := cells2 ((q0.block _ Le.out).trans Re.out); clear q q0))
          | (go_at_call 12; ((with_reducible refine (validd_is _ _ _ (cN NT) r1 _ _ (cN_length _).symm (Hni3.out.below B4.out) Hcl.out Hg2.out).mono ?_); rintro e x4 ⟨rfl, q⟩;  have Hext := Lib.hid (LexK.Ext.of_below (Kp := fun x => x < wz.drew.heap.size) q (Nat.le_refl _)); have B5 := Lib.hid (B4.out.step q); have q0 : Below wz.drew.heap.size wz.drew x4 := Q3.out.trans (q.mono Q3.out.size); have Q4 := Lib.hid q0; obtain ⟨u4d, t4d, -⟩ := cells2 ((q0.block _ Ld.out).trans Rd.out); obtain ⟨u4p, t4p, -⟩ := cells2 ((q0.block _ Lp.out).trans Rp.out); obtain ⟨u4e, t4e, -⟩ := cells2 ((q0.block _ Le.out).trans Re.out); clear q q0))
          | (go_at_call 9; ((with_reducible refine (awake_any _).mono ?_); rintro e x5 ⟨rfl, q⟩;  have Hext := Lib.hid (LexK.Ext.of_below (Kp := fun x => x < wz.drew.heap.size) q (Nat.le_refl _)); have B6 := Lib.hid (B5.out.step q); have q0 : Below wz.drew.heap.size wz.drew x5 := Q4.out.trans (q.mono Q4.out.size); have Q5 := Lib.hid q0; obtain ⟨u5d, t5d, -⟩ := cells2 ((q0.block _ Ld.out).trans Rd.out); obtain ⟨u5p, t5p, -⟩ := cells2 ((q0.block _ Lp.out).trans Rp.out); obtain ⟨u5e, t5e, -⟩ := cells2 ((q0.block _ Le.out).trans Re.out); clear q q0)))
        go_ret
        exact ⟨rfl, Bb.out.step (Bz.out.step B6.out)⟩
    have hpos : 0 < NT.length := by omega
    obtain ⟨gq, rfl⟩ := own_ptr Ho.out hpos
    have f3 : decide (0 < NT.length) = true := by simp; omega
    have f4 : decide ((0 : Int) < (NT.length : Int)) = true := by simp; omega
    go_upto_region 8 with fail
    go_upto_region 9 with fail
    obtain ⟨i, hi, e12⟩ := rem_nat ki NT.length hpos hcl
    rw [e12]
    clear e12 hz
    obtain ⟨hBq, hfz⟩ := own_free Ho.out hpos
    have hfr := hfz (i * 3 + 2)
    have hnsq := NS.of_own Ho.out
    have hniq := hnsq.ni
    obtain ⟨aq, oq, eq, haq, y0, y1, y2⟩ := hniq i (by rw [cN_length]; exact hi)
    cases eq
    simp only [Nat.zero_add] at y0 y1 y2
    have y2' := y2
    have Hniq := Lib.hid hniq; have HBq := Lib.hid hBq
    clear hniq hnsq hBq y0 y1 hfz
    go_upto_region 10 with (first
      | ((with_reducible refine Lex.at_region ?_); with_reducible refine Lex.wp_region_lex (by kernel_rfl) (by decide +kernel) ?_)
      | ((with_reducible refine Lex.at_fin ?_); with_reducible refine Lex.fin_on (by kernel_rfl) ?_))
    have hge : ge ≠ gq := fun e => own_ne' Ho.out Hre.out (by decide) (by rw [e]; rfl)
    generalize wrap64 ((IntKind.u64.wrap ji).tmod ((NT.length : Int) + 2)) = X
    obtain ⟨wx, hwx⟩ : ∃ x, x = (wz.setCell ⟨gq, i * 3 + 2, none⟩ (.int .i64 X)).drew := ⟨_, rfl⟩
    rw [← hwx]
    have hbx : Below wb.heap.size wb wx := by rw [hwx]; exact (below_set Bz.out HBq.out).drew
    have hre : wx.heap[ge]? = some (.cells #[.slice (some ⟨gq, 0, none⟩) NT.length c5, .int .i64 r1] 24) := by rw [hwx]; exact (set_other hge).trans Hre.out
    have hni3 : NI wx (some ⟨gq, 0, none⟩) (lowPut (cN NT) i X) := by rw [hwx]; exact Hniq.out.put i X
    obtain ⟨g2, hg2⟩ := good_bool (lowPut (cN NT) i X) r1
    have Hni3 := Lib.hid hni3; have Hg2 := Lib.hid hg2; have Bx := Lib.hid hbx
    have Hcl := Lib.hid (show (lowPut (cN NT) i X).length ≤ 65536 by rw [lowPut_len, cN_length]; omega)
    have Hln := Lib.hid (show NT.length = (lowPut (cN NT) i X).length by rw [lowPut_len, cN_length])
    have Hrx := Lib.hid hre
    have Vax := Lib.hid (Va.out.below hbx)
    have Hnix := Lib.hid (Hni1.out.below hbx)
    have Hrdx := Lib.hid ((hbx.block _ (heap_lt Hrd.out)).trans Hrd.out)
    have Hrpx := Lib.hid ((hbx.block _ (heap_lt N1.out)).trans N1.out)
    clear hwx hbx hre hni3 hg2 hge zee zee1 y2 y2' hfr Hniq HBq Hre Hrd1 Hrp1 Va1 Hni2
    cases g0 <;> cases g2
    all_goals
      have Y0d := Lib.hid (show wx.drew.cell? ⟨w.heap.size, 0, none⟩ = _ from (cells2 Hrdx.out).1)
      have Ld := Lib.hid (show w.heap.size < wx.drew.heap.size from heap_lt Hrdx.out)
      have Rd := Lib.hid (show wx.drew.heap[w.heap.size]? = _ from Hrdx.out)
      have Y0p := Lib.hid (show wx.drew.cell? ⟨w1.heap.size, 0, none⟩ = _ from (cells2 Hrpx.out).1)
      have Lp := Lib.hid (show w1.heap.size < wx.drew.heap.size from heap_lt Hrpx.out)
      have Rp := Lib.hid (show wx.drew.heap[w1.heap.size]? = _ from Hrpx.out)
      have Y0e := Lib.hid (show wx.drew.cell? ⟨ge, 0, none⟩ = _ from (cells2 Hrx.out).1)
      have Le := Lib.hid (show ge < wx.drew.heap.size from heap_lt Hrx.out)
      have Re := Lib.hid (show wx.drew.heap[ge]? = _ from Hrx.out)
      have B0 := Lib.hid (show Below wx.heap.size wx wx.drew from (Below.refl _ _).drew)
      obtain ⟨z0d, z1d, -⟩ := cells2 Hrdx.out
      obtain ⟨z0p, z1p, -⟩ := cells2 Hrpx.out
      obtain ⟨z0e, z1e, -⟩ := cells2 Hrx.out
      go_wp2_with (first
        | ((with_reducible refine Lex.at_finK ?_); refine LexK.finE_on (by kernel_rfl) (by repeat first | exact LexK.finL_nil | refine LexK.finL_none rfl ?_ | refine LexK.finL_skip (by decide +kernel) ?_ | refine LexK.finL_take rfl Ld.out Y0d.out ?_ | refine LexK.finL_take rfl Lp.out Y0p.out ?_ | refine LexK.finL_take rfl Le.out Y0e.out ?_) ?_)
        | ((with_reducible refine Lex.at_region ?_); refine LexK.wp_region_lexE (fun x => x < wx.drew.heap.size) (by kernel_rfl) (by decide +kernel) ?_)
        | ((with_reducible refine Lex.at_wpX ?_); with_reducible refine LexK.wpX_plain (by decide +kernel) ?_)
        | ((with_reducible refine Lex.at_wpX ?_); with_reducible refine LexK.wpX_call ?_)
        | ((with_reducible refine Lex.at_wpX ?_); with_reducible refine LexK.wpX_nil ?_)
        | ((with_reducible refine Lex.at_ext ?_); with_reducible refine LexK.ext_on Hext.out ?_)
        | (go_at_call 11; ((with_reducible refine (valid_is _ _ _ N0 r0 _ _ Hn0.out (Hnix.out.below B0.out) HNle.out Hg0.out).mono ?_); rintro e x0 ⟨rfl, q⟩;  have Hext := Lib.hid (LexK.Ext.of_below (Kp := fun x => x < wx.drew.heap.size) q (Nat.le_refl _)); have B1 := Lib.hid (B0.out.step q); have q0 : Below wx.drew.heap.size wx.drew x0 := q; have Q0 := Lib.hid q0; obtain ⟨u0d, t0d, -⟩ := cells2 ((q0.block _ Ld.out).trans Rd.out); obtain ⟨u0p, t0p, -⟩ := cells2 ((q0.block _ Lp.out).trans Rp.out); obtain ⟨u0e, t0e, -⟩ := cells2 ((q0.block _ Le.out).trans Re.out); clear q q0))
        | (go_at_call 12; ((with_reducible refine (validd_is _ _ _ N0 r0 _ _ Hn0.out (Hnix.out.below B1.out) HNle.out Hg0.out).mono ?_); rintro e x1 ⟨rfl, q⟩;  have Hext := Lib.hid (LexK.Ext.of_below (Kp := fun x => x < wx.drew.heap.size) q (Nat.le_refl _)); have B2 := Lib.hid (B1.out.step q); have q0 : Below wx.drew.heap.size wx.drew x1 := Q0.out.trans (q.mono Q0.out.size); have Q1 := Lib.hid q0; obtain ⟨u1d, t1d, -⟩ := cells2 ((q0.block _ Ld.out).trans Rd.out); obtain ⟨u1p, t1p, -⟩ := cells2 ((q0.block _ Lp.out).trans Rp.out); obtain ⟨u1e, t1e, -⟩ := cells2 ((q0.block _ Le.out).trans Re.out); clear q q0))
        | (go_at_call 11; ((with_reducible refine (valid_tree _ ta _ (Vax.out.below B2.out)).mono ?_); rintro e x2 ⟨rfl, q⟩;  have Hext := Lib.hid (LexK.Ext.of_below (Kp := fun x => x < wx.drew.heap.size) q (Nat.le_refl _)); have B3 := Lib.hid (B2.out.step q); have q0 : Below wx.drew.heap.size wx.drew x2 := Q1.out.trans (q.mono Q1.out.size); have Q2 := Lib.hid q0; obtain ⟨u2d, t2d, -⟩ := cells2 ((q0.block _ Ld.out).trans Rd.out); obtain ⟨u2p, t2p, -⟩ := cells2 ((q0.block _ Lp.out).trans Rp.out); obtain ⟨u2e, t2e, -⟩ := cells2 ((q0.block _ Le.out).trans Re.out); clear q q0))
        | (go_at_call 11; ((with_reducible refine (valid_is _ _ _ (lowPut (cN NT) i X) r1 _ _ Hln.out (Hni3.out.below B3.out) Hcl.out Hg2.out).mono ?_); rintro e x3 ⟨rfl, q⟩;  have Hext := Lib.hid (LexK.Ext.of_below (Kp := fun x => x < wx.drew.heap.size) q (Nat.le_refl _)); have B4 := Lib.hid (B3.out.step q); have q0 : Below wx.drew.heap.size wx.drew x3 := Q2.out.trans (q.mono Q2.out.size); have Q3 := Lib.hid q0; obtain ⟨u3d, t3d, -⟩ := cells2 ((q0.block _ Ld.out).trans Rd.out); obtain ⟨u3p, t3p, -⟩ := cells2 ((q0.block _ Lp.out).trans Rp.out); obtain ⟨u3e, t3e, -⟩ := cells2 ((q0.block _ Le.out).trans Re.out); clear q q0))
        | (go_at_call 12; ((with_reducible refine (validd_is _ _ _ (lowPut (cN NT) i X) r1 _ _ Hln.out (Hni3.out.below B4.out) Hcl.out Hg2.out).mono ?_); rintro e x4 ⟨rfl, q⟩;  have Hext := Lib.hid (LexK.Ext.of_below (Kp := fun x => x < wx.drew.heap.size) q (Nat.le_refl _)); have B5 := Lib.hid (B4.out.step q); have q0 : Below wx.drew.heap.size wx.drew x4 := Q3.out.trans (q.mono Q3.out.size); have Q4 := Lib.hid q0; obtain ⟨u4d, t4d, -⟩ := cells2 ((q0.block _ Ld.out).trans Rd.out); obtain ⟨u4p, t4p, -⟩ := cells2 ((q0.block _ Lp.out).trans Rp.out); obtain ⟨u4e, t4e, -⟩ := cells2 ((q0.block _ Le.out).trans Re.out); clear q q0))
        | (go_at_call 9; ((with_reducible refine (awake_any _).mono ?_); rintro e x5 ⟨rfl, q⟩;  have Hext := Lib.hid (LexK.Ext.of_below (Kp := fun x => x < wx.drew.heap.size) q (Nat.le_refl _)); have B6 := Lib.hid (B5.out.step q); have q0 : Below wx.drew.heap.size wx.drew x5 := Q4.out.trans (q.mono Q4.out.size); have Q5 := Lib.hid q0; obtain ⟨u5d, t5d, -⟩ := cells2 ((q0.block _ Ld.out).trans Rd.out); obtain ⟨u5p, t5p, -⟩ := cells2 ((q0.block _ Lp.out).trans Rp.out); obtain ⟨u5e, t5e, -⟩ := cells2 ((q0.block _ Le.out).trans Re.out); clear q q0)))
      go_ret
      exact ⟨rfl, Bb.out.step (Bx.out.step B6.out)⟩
end Go.Proofs.Ytkppcibffbnhoaa
