/-
  Walks: DiagramCanonical.
-/
import Derived.Test.YtkppcibffbnhoaaH1
namespace Go.Proofs.Ytkppcibffbnhoaa
open Go.RowKit
set_option maxRecDepth 100000

/-- The same of drawn, in parts. -/
theorem DR.parts {ps : List IP} {w : World} {e : Ending} {w' : World} (h : DR ps w e w') : ∃ p m c r b, e = .returned (.tuple #[.agg #[.slice p m c, .int .i64 r], .bool b]) ∧ Below w.heap.size w w' ∧
    (b = true → ∃ t, DV w' (.agg #[.slice p m c, .int .i64 r]) t ∧ ∀ M, M < 4096 → t.ev (bitsF M) = ps.any (holdsP M)) := by
  rcases h with ⟨rfl, hb⟩ | ⟨v, t, rfl, hd, hev, hb⟩
  · exact ⟨_, _, _, _, false, rfl, hb, fun h => by cases h⟩
  · obtain ⟨p, c, rfl, -⟩ := id hd.dd.ex
    exact ⟨_, _, _, _, true, rfl, hb, fun _ => ⟨t, hd, hev⟩⟩
theorem eqd_same (va vb : Value) (s : T) (w : World) (ha : DV w va s) (hb : DV w vb s) : Calls Try.prog 15 #[va, vb] w (ER true w) := by
  have := eqd_tree va vb s s w ha hb
  rwa [show decide (s = s) = true by simp] at this
theorem PS.grow {w w' : World} {p : Option Addr} {n : Nat} {ps : List IP} (h : PS w p n ps) (hb : Below w.heap.size w w') : PS w' p n ps := h.below hb

set_option maxHeartbeats 32000000 in
theorem canonical_walk (P1 P2 P3 : Option Addr) (n1 n2 n3 c1 c2 c3 : Nat) (ps1 ps2 ps3 : List IP) (w : World) (h1 : PS w P1 n1 ps1) (h2 : PS w P2 n2 ps2) (h3 : PS w P3 n3 ps3) :
    Calls Try.prog 4 #[.slice P1 n1 c1, .slice P2 n2 c2, .slice P3 n3 c3] w (ER true w) := by
  have hd1 := (drawn_any P1 n1 c1 ps1 w h1).mono fun _ _ => DR.parts
  have hd2 := fun wx (hw : Below w.heap.size w wx) => (drawn_any P2 n2 c2 ps2 wx (h2.below hw)).mono fun _ _ => DR.parts
  have hd3 := fun wx (hw : Below w.heap.size w wx) => (drawn_any P3 n3 c3 ps3 wx (h3.below hw)).mono fun _ _ => DR.parts
  clear h1 h2 h3
  go_enter Try.func4, Try.ntmps4
  go_upto_region 2 with (go_at_call 10; refine hd1.mono ?_; rintro e w1 ⟨p1, m1, k1, r1, b1, rfl, q1, ht1⟩; have Q1 := Lib.hid q1; have HT1 := Lib.hid ht1; clear q1 ht1)
  have hal1 : Below w1.heap.size w1 (w1.alloc (.cells #[.slice p1 m1 k1, .int .i64 r1] 24)) := (Below.refl _ _).alloc (Nat.le_refl _) _
  have hn1 := heap_alloc_new w1 (.cells #[.slice p1 m1 k1, .int .i64 r1] 24)
  generalize w1.alloc (.cells #[.slice p1 m1 k1, .int .i64 r1] 24) = w2 at *
  have A1 := Lib.hid hal1; have N1 := Lib.hid hn1; have B2 := Lib.hid (Q1.out.step hal1)
  clear hal1 hn1
  go_upto_region 3 with (go_at_call 10; refine (hd2 _ B2.out).mono ?_; rintro e w3 ⟨p2, m2, k2, r2, b2, rfl, q2, ht2⟩; have Q2 := Lib.hid q2; have HT2 := Lib.hid ht2; clear q2 ht2)
  have hal2 : Below w3.heap.size w3 (w3.alloc (.cells #[.slice p2 m2 k2, .int .i64 r2] 24)) := (Below.refl _ _).alloc (Nat.le_refl _) _
  have hn2 := heap_alloc_new w3 (.cells #[.slice p2 m2 k2, .int .i64 r2] 24)
  generalize w3.alloc (.cells #[.slice p2 m2 k2, .int .i64 r2] 24) = w4 at *
  have A2 := Lib.hid hal2; have N2 := Lib.hid hn2; have B4 := Lib.hid (B2.out.step (Q2.out.step hal2)); have B24 := Lib.hid (Q2.out.step hal2)
  clear hal2 hn2
  go_upto_region 4 with (go_at_call 10; refine (hd3 _ B4.out).mono ?_; rintro e w5 ⟨p3, m3, k3, r3, b3, rfl, q3, ht3⟩; have Q3 := Lib.hid q3; have HT3 := Lib.hid ht3; clear q3 ht3)
  have hal3 : Below w5.heap.size w5 (w5.alloc (.cells #[.slice p3 m3 k3, .int .i64 r3] 24)) := (Below.refl _ _).alloc (Nat.le_refl _) _
  have hn3 := heap_alloc_new w5 (.cells #[.slice p3 m3 k3, .int .i64 r3] 24)
  generalize w5.alloc (.cells #[.slice p3 m3 k3, .int .i64 r3] 24) = wb at *
  have B6 := Lib.hid (B4.out.step (Q3.out.step hal3)); have B46 := Lib.hid (Q3.out.step hal3)
  have hra := (((B24.out.step B46.out).block _ (heap_lt N1.out))).trans N1.out
  have hrb := ((B46.out.block _ (heap_lt N2.out))).trans N2.out
  have Hra := Lib.hid hra; have Hrb := Lib.hid hrb; have Hrc := Lib.hid hn3; have A3 := Lib.hid hal3
  clear hra hrb hn3 hal3 hd1 hd2 hd3
  cases b1
  case false => go_wp2_with (go_at_call 9; refine (awake_any _).mono ?_; rintro e w9 ⟨rfl, q9⟩; have Q9 := Lib.hid q9; clear q9)
                go_ret
                exact ⟨rfl, B6.out.step Q9.out⟩
  cases b2
  case false => go_wp2_with (go_at_call 9; refine (awake_any _).mono ?_; rintro e w9 ⟨rfl, q9⟩; have Q9 := Lib.hid q9; clear q9)
                go_ret
                exact ⟨rfl, B6.out.step Q9.out⟩
  cases b3
  case false => go_wp2_with (go_at_call 9; refine (awake_any _).mono ?_; rintro e w9 ⟨rfl, q9⟩; have Q9 := Lib.hid q9; clear q9)
                go_ret
                exact ⟨rfl, B6.out.step Q9.out⟩
  obtain ⟨ta, da, -⟩ := HT1.out rfl
  obtain ⟨tb, db, -⟩ := HT2.out rfl
  obtain ⟨tc, dc, -⟩ := HT3.out rfl
  have oa := da.ok
  have ob := db.ok
  have oc := dc.ok
  have Va := Lib.hid (da.below (A1.out.step (B24.out.step B46.out)))
  have Vb := Lib.hid (db.below (A2.out.step B46.out))
  have Vc := Lib.hid (dc.below A3.out)
  obtain ⟨bc, obc, ebc⟩ := or_tree ob oc
  obtain ⟨l, ol, el⟩ := and_tree oa obc
  obtain ⟨ab, oab, eab⟩ := and_tree oa ob
  obtain ⟨tac, oac, eac⟩ := and_tree oa oc
  obtain ⟨na, ona, ena⟩ := not_tree oa
  obtain ⟨nb, onb, enb⟩ := not_tree ob
  obtain ⟨nab, onab, enab⟩ := not_tree oab
  have er : ∀ a, l.ev a = (ab.ev a || tac.ev a) := fun a => by rw [el, ebc, eab, eac]; cases ta.ev a <;> simp
  have ena2 : ∀ a, ta.ev a = !(na.ev a) := fun a => by rw [ena]; simp
  have enab2 : ∀ a, nab.ev a = (na.ev a || nb.ev a) := fun a => by rw [enab, eab, ena, enb]; simp
  have Ebc := Lib.hid ebc; have El := Lib.hid el; have Eab := Lib.hid eab; have Eac := Lib.hid eac; have Ena := Lib.hid ena; have Enb := Lib.hid enb; have Enab := Lib.hid enab; have Er := Lib.hid er; have Ena2 := Lib.hid ena2; have Enab2 := Lib.hid enab2
  clear ebc el eab eac ena enb enab er ena2 enab2 da db dc HT1 HT2 HT3 Q1 Q2 Q3 A1 A2 A3 N1 N2 B2 B4 B24 B46
  have hla := heap_lt Hra.out
  have hlb := heap_lt Hrb.out
  have hlc := heap_lt Hrc.out
  go_upto_region 6 with fail
  obtain ⟨J, hJd⟩ : ∃ J : (Nat → Prop) → Act → World → Prop, J = fun (D : Nat → Prop) (ac : Act) (w' : World) => ∃ (f : Nat → Nat) (s41 s42 s43 s44 s45 s13 : Value), ac = ⟨((.slice P1 n1 c1) :: (.slice P2 n2 c2) :: (.slice P3 n3 c3) :: undef :: undef :: undef :: (.bool false) :: (.pointer (some ⟨w1.heap.size, 0, none⟩)) :: (.bool true) :: (.pointer (some ⟨w3.heap.size, 0, none⟩)) :: (.bool true) :: (.pointer (some ⟨w5.heap.size, 0, none⟩)) :: (.bool true) :: s13 :: undef :: (.tuple #[(.agg #[.slice p1 m1 k1, .int .i64 r1]), .bool true]) :: (.slice P1 n1 c1) :: (.tuple #[(.agg #[.slice p1 m1 k1, .int .i64 r1]), .bool true]) :: (.agg #[.slice p1 m1 k1, .int .i64 r1]) :: (.bool true) :: (.tuple #[(.agg #[.slice p2 m2 k2, .int .i64 r2]), .bool true]) :: (.slice P2 n2 c2) :: (.tuple #[(.agg #[.slice p2 m2 k2, .int .i64 r2]), .bool true]) :: (.agg #[.slice p2 m2 k2, .int .i64 r2]) :: (.bool true) :: (.tuple #[(.agg #[.slice p3 m3 k3, .int .i64 r3]), .bool true]) :: (.slice P3 n3 c3) :: (.tuple #[(.agg #[.slice p3 m3 k3, .int .i64 r3]), .bool true]) :: (.agg #[.slice p3 m3 k3, .int .i64 r3]) :: (.bool true) :: (.bool true) :: (.bool false) :: (.bool false) :: (.bool true) :: (.bool false) :: (.bool false) :: (.bool false) :: (.bool true) :: (.bool false) :: (.bool false) :: undef :: s41 :: s42 :: s43 :: s44 :: s45 :: undef :: undef :: undef :: undef :: undef :: undef :: undef :: undef :: undef :: undef :: undef :: undef :: undef :: undef :: undef :: undef :: undef :: undef :: undef :: undef :: undef :: undef :: undef :: undef :: undef :: undef :: undef :: undef :: undef :: undef :: undef :: undef :: []).toArray, []⟩ ∧ Below wb.heap.size wb w' ∧ (D 0 → s41 = (.agg #[.slice p1 m1 k1, .int .i64 r1])) ∧ (D 1 → s42 = (.agg #[.slice p2 m2 k2, .int .i64 r2])) ∧ (D 2 → s43 = (.agg #[.slice p3 m3 k3, .int .i64 r3])) ∧ (D 3 → DV w' s44 bc) ∧ (D 4 → DV w' s45 l) ∧ (D 5 → LC f wb.heap.size 5 w' s13 fun v => D 6 → v = s45) ∧ (D 3 → D 1) ∧ (D 3 → D 2) ∧ (D 4 → D 0) ∧ (D 4 → D 3) ∧ (D 6 → D 5) ∧ (D 6 → D 4) := ⟨_, rfl⟩
  have HJ := Lib.hid hJd; clear hJd
  refine Inv.wp_region_inv J (by kernel_rfl) (by decide +kernel) ?_ ?_ ?_
  · rw [HJ.out]
    exact ⟨fun _ => 0, _, _, _, _, _, _, rfl, (Below.refl _ _).drew, fun h => h.elim, fun h => h.elim, fun h => h.elim, fun h => h.elim, fun h => h.elim, fun h => h.elim, fun h => h.elim, fun h => h.elim, fun h => h.elim, fun h => h.elim, fun h => h.elim, fun h => h.elim⟩
  · intro i op hi D ac w' hD hA hJ
    rw [HJ.out] at hJ
    obtain ⟨f, s41, s42, s43, s44, s45, s13, rfl, hb, h0, h1, h2, h3, h4, h5, g3_1, g3_2, g4_0, g4_3, g6_5, g6_4⟩ := hJ
    match i, hi, hA with
    | 0, hi, hA =>
      obtain rfl := Option.some.inj hi
      clear hi
      clear hA
      obtain ⟨c0, c1, -⟩ := cells2 ((hb.block _ hla).trans Hra.out)
      have H0 := Lib.hid h0; have H1 := Lib.hid h1; have H2 := Lib.hid h2; have H3 := Lib.hid h3; have H4 := Lib.hid h4; have H5 := Lib.hid h5; have Hb := Lib.hid hb; have HD := Lib.hid hD; clear hb hD h0 h1 h2 h3 h4 h5
      go_wp2
      rw [HJ.out]
      exact ⟨f, _, _, _, _, _, _, rfl, Hb.out, fun _ => rfl, fun h => (H1.out (h.resolve_right (by decide))), fun h => (H2.out (h.resolve_right (by decide))), fun h => (H3.out (h.resolve_right (by decide))), fun h => (H4.out (h.resolve_right (by decide))), fun h => ((H5.out (h.resolve_right (by decide)))).mono fun v hc h' => hc (h'.resolve_right (by decide)), fun h => .inl (g3_1 (h.resolve_right (by decide))), fun h => .inl (g3_2 (h.resolve_right (by decide))), fun _ => .inr rfl, fun h => .inl (g4_3 (h.resolve_right (by decide))), fun h => .inl (g6_5 (h.resolve_right (by decide))), fun h => .inl (g6_4 (h.resolve_right (by decide)))⟩
    | 1, hi, hA =>
      obtain rfl := Option.some.inj hi
      clear hi
      clear hA
      obtain ⟨c0, c1, -⟩ := cells2 ((hb.block _ hlb).trans Hrb.out)
      have H0 := Lib.hid h0; have H1 := Lib.hid h1; have H2 := Lib.hid h2; have H3 := Lib.hid h3; have H4 := Lib.hid h4; have H5 := Lib.hid h5; have Hb := Lib.hid hb; have HD := Lib.hid hD; clear hb hD h0 h1 h2 h3 h4 h5
      go_wp2
      rw [HJ.out]
      exact ⟨f, _, _, _, _, _, _, rfl, Hb.out, fun h => (H0.out (h.resolve_right (by decide))), fun _ => rfl, fun h => (H2.out (h.resolve_right (by decide))), fun h => (H3.out (h.resolve_right (by decide))), fun h => (H4.out (h.resolve_right (by decide))), fun h => ((H5.out (h.resolve_right (by decide)))).mono fun v hc h' => hc (h'.resolve_right (by decide)), fun _ => .inr rfl, fun h => .inl (g3_2 (h.resolve_right (by decide))), fun h => .inl (g4_0 (h.resolve_right (by decide))), fun h => .inl (g4_3 (h.resolve_right (by decide))), fun h => .inl (g6_5 (h.resolve_right (by decide))), fun h => .inl (g6_4 (h.resolve_right (by decide)))⟩
    | 2, hi, hA =>
      obtain rfl := Option.some.inj hi
      clear hi
      clear hA
      obtain ⟨c0, c1, -⟩ := cells2 ((hb.block _ hlc).trans Hrc.out)
      have H0 := Lib.hid h0; have H1 := Lib.hid h1; have H2 := Lib.hid h2; have H3 := Lib.hid h3; have H4 := Lib.hid h4; have H5 := Lib.hid h5; have Hb := Lib.hid hb; have HD := Lib.hid hD; clear hb hD h0 h1 h2 h3 h4 h5
      go_wp2
      rw [HJ.out]
      exact ⟨f, _, _, _, _, _, _, rfl, Hb.out, fun h => (H0.out (h.resolve_right (by decide))), fun h => (H1.out (h.resolve_right (by decide))), fun _ => rfl, fun h => (H3.out (h.resolve_right (by decide))), fun h => (H4.out (h.resolve_right (by decide))), fun h => ((H5.out (h.resolve_right (by decide)))).mono fun v hc h' => hc (h'.resolve_right (by decide)), fun h => .inl (g3_1 (h.resolve_right (by decide))), fun _ => .inr rfl, fun h => .inl (g4_0 (h.resolve_right (by decide))), fun h => .inl (g4_3 (h.resolve_right (by decide))), fun h => .inl (g6_5 (h.resolve_right (by decide))), fun h => .inl (g6_4 (h.resolve_right (by decide)))⟩
    | 3, hi, hA =>
      obtain rfl := Option.some.inj hi
      clear hi
      have d1 := after_of hA 1 (by decide +kernel)
      have d2 := after_of hA 2 (by decide +kernel)
      clear hA
      obtain rfl := h1 d1
      obtain rfl := h2 d2
      have hcall := orD_any _ _ tb tc bc w' (Vb.out.below hb) (Vc.out.below hb) obc Ebc.out
      have H0 := Lib.hid h0; have H1 := Lib.hid h1; have H2 := Lib.hid h2; have H3 := Lib.hid h3; have H4 := Lib.hid h4; have H5 := Lib.hid h5; have Hb := Lib.hid hb; have HD := Lib.hid hD; clear hb hD h0 h1 h2 h3 h4 h5
      go_wp2_with (go_at_call 14; refine hcall.mono ?_; rintro e w2 ⟨v2, rfl, q1, q2⟩; have Hq1 := Lib.hid q1; have Hq := Lib.hid q2; clear q1 q2)
      rw [HJ.out]
      exact ⟨fu f w'.heap.size 3, _, _, _, _, _, _, rfl, Hb.out.trans (Hq.out.mono Hb.out.size), fun h => (H0.out (h.resolve_right (by decide))), fun _ => rfl, fun _ => rfl, fun _ => Hq1.out, fun h => ((H4.out (h.resolve_right (by decide)))).below Hq.out, fun h => (((H5.out (h.resolve_right (by decide))).grow Hq.out)).mono fun v hc h' => hc (h'.resolve_right (by decide)), fun _ => .inl d1, fun _ => .inl d2, fun h => .inl (g4_0 (h.resolve_right (by decide))), fun _ => .inr rfl, fun h => .inl (g6_5 (h.resolve_right (by decide))), fun h => .inl (g6_4 (h.resolve_right (by decide)))⟩
    | 4, hi, hA =>
      obtain rfl := Option.some.inj hi
      clear hi
      have d0 := after_of hA 0 (by decide +kernel)
      have d3 := after_of hA 3 (by decide +kernel)
      clear hA
      obtain rfl := h0 d0
      have hcall := andD_any _ _ ta bc l w' (Va.out.below hb) (h3 d3) ol El.out
      have H0 := Lib.hid h0; have H1 := Lib.hid h1; have H2 := Lib.hid h2; have H3 := Lib.hid h3; have H4 := Lib.hid h4; have H5 := Lib.hid h5; have Hb := Lib.hid hb; have HD := Lib.hid hD; clear hb hD h0 h1 h2 h3 h4 h5
      go_wp2_with (go_at_call 13; refine hcall.mono ?_; rintro e w2 ⟨v2, rfl, q1, q2⟩; have Hq1 := Lib.hid q1; have Hq := Lib.hid q2; clear q1 q2)
      rw [HJ.out]
      exact ⟨fu f w'.heap.size 4, _, _, _, _, _, _, rfl, Hb.out.trans (Hq.out.mono Hb.out.size), fun _ => rfl, fun h => (H1.out (h.resolve_right (by decide))), fun h => (H2.out (h.resolve_right (by decide))), fun h => ((H3.out (h.resolve_right (by decide)))).below Hq.out, fun _ => Hq1.out, fun h => (((H5.out (h.resolve_right (by decide))).grow Hq.out)).mono fun v hc h' => (HD.out (g6_4 (h'.resolve_right (by decide)))).elim, fun h => .inl (g3_1 (h.resolve_right (by decide))), fun h => .inl (g3_2 (h.resolve_right (by decide))), fun _ => .inl d0, fun _ => .inl d3, fun h => .inl (g6_5 (h.resolve_right (by decide))), fun _ => .inr rfl⟩
    | 5, hi, hA =>
      obtain rfl := Option.some.inj hi
      clear hi
      clear hA
      have hst : ¬ D 6 := fun h => hD (g6_5 h)
      have H0 := Lib.hid h0; have H1 := Lib.hid h1; have H2 := Lib.hid h2; have H3 := Lib.hid h3; have H4 := Lib.hid h4; have H5 := Lib.hid h5; have Hb := Lib.hid hb; have HD := Lib.hid hD; clear hb hD h0 h1 h2 h3 h4 h5; have Hst := Lib.hid hst; clear hst
      go_wp2
      have Hq := Lib.hid ((Below.refl w'.heap.size w').alloc (Nat.le_refl _) (.cells #[.slice none 0 0, .int .i64 0] 24))
      rw [HJ.out]
      exact ⟨fu f w'.heap.size 5, _, _, _, _, _, _, rfl, Hb.out.trans (Hq.out.mono Hb.out.size), fun h => (H0.out (h.resolve_right (by decide))), fun h => (H1.out (h.resolve_right (by decide))), fun h => (H2.out (h.resolve_right (by decide))), fun h => ((H3.out (h.resolve_right (by decide)))).below Hq.out, fun h => ((H4.out (h.resolve_right (by decide)))).below Hq.out, fun _ => LC.new _ _ Hb.out.size fun h => (Hst.out (h.resolve_right (by decide))).elim, fun h => .inl (g3_1 (h.resolve_right (by decide))), fun h => .inl (g3_2 (h.resolve_right (by decide))), fun h => .inl (g4_0 (h.resolve_right (by decide))), fun h => .inl (g4_3 (h.resolve_right (by decide))), fun _ => .inr rfl, fun h => .inl (g6_4 (h.resolve_right (by decide)))⟩
    | 6, hi, hA =>
      obtain rfl := Option.some.inj hi
      clear hi
      have d5 := after_of hA 5 (by decide +kernel)
      have d4 := after_of hA 4 (by decide +kernel)
      clear hA
      obtain ⟨g, x, y, rfl, hg1, hg2, hg3, hg4⟩ := h5 d5
      have hv := h4 d4
      obtain ⟨pq, cq, rfl, -⟩ := id hv.dd.ex
      have H0 := Lib.hid h0; have H1 := Lib.hid h1; have H2 := Lib.hid h2; have H3 := Lib.hid h3; have H4 := Lib.hid h4; have Hb := Lib.hid hb; have HD := Lib.hid hD; have Hv := Lib.hid hv; have Hg1 := Lib.hid hg1; have Hg2 := Lib.hid hg2; have Hg3 := Lib.hid hg3; clear hb hD hv hg1 hg2 hg3 hg4 h0 h1 h2 h3 h4 h5
      go_wp2_with (with_reducible refine wpList_store_row rfl 24 (.tmp 13) (.tmp 45) rfl _ _ rfl rfl _ _ Hg3.out (by kernel_rfl) (by kernel_rfl) (by kernel_rfl) ?_)
      rw [HJ.out]
      exact ⟨f, _, _, _, _, _, _, rfl, below_setRow Hb.out Hg1.out, fun h => (H0.out (h.resolve_right (by decide))), fun h => (H1.out (h.resolve_right (by decide))), fun h => (H2.out (h.resolve_right (by decide))), fun h => ((H3.out (h.resolve_right (by decide)))).setRow Hg3.out, fun _ => Hv.out.setRow Hg3.out, fun _ => ⟨g, _, _, rfl, Hg1.out, Hg2.out, setRow_heap _ _ _ _ _ _ Hg3.out, fun _ => rfl⟩, fun h => .inl (g3_1 (h.resolve_right (by decide))), fun h => .inl (g3_2 (h.resolve_right (by decide))), fun h => .inl (g4_0 (h.resolve_right (by decide))), fun h => .inl (g4_3 (h.resolve_right (by decide))), fun _ => .inl d5, fun _ => .inl d4⟩
    | n + 7, hi, hA => cases hi
  · intro D ac w' hall hJ
    rw [HJ.out] at hJ
    obtain ⟨f, s41, s42, s43, s44, s45, s13, rfl, hb, h0, h1, h2, h3, h4, h5, g3_1, g3_2, g4_0, g4_3, g6_5, g6_4⟩ := hJ
    have hd : ∀ i, i < 7 → D i := hall
    clear hall
    obtain ⟨g, x, y, rfl, hg1, hg2, hg3, hg4⟩ := h5 (hd 5 (by decide))
    have hx := hg4 (hd 6 (by decide))
    have hdl := h4 (hd 4 (by decide))
    obtain rfl := h0 (hd 0 (by decide))
    obtain rfl := h1 (hd 1 (by decide))
    obtain rfl := h2 (hd 2 (by decide))
    subst hx
    obtain ⟨p4, k4, e4, -⟩ := id hdl.dd.ex
    simp only [Value.agg.injEq, Array.mk.injEq, List.cons.injEq, and_true] at e4
    obtain ⟨rfl, rfl⟩ := e4
    have Hdl := Lib.hid hdl; have Hrl := Lib.hid hg3
    have Bq := Lib.hid (B6.out.step hb)
    have Va1 := Lib.hid (Va.out.below hb); have Vb1 := Lib.hid (Vb.out.below hb); have Vc1 := Lib.hid (Vc.out.below hb)
    have Hra1 := Lib.hid ((hb.block _ hla).trans Hra.out); have Hrb1 := Lib.hid ((hb.block _ hlb).trans Hrb.out); have Hrc1 := Lib.hid ((hb.block _ hlc).trans Hrc.out)
    clear HJ J hd h0 h1 h2 h3 h4 h5 hdl hb hg3 hg4 hg2 Hra Hrb Hrc Va Vb Vc hla hlb hlc
    have hK : ∀ {K : Act → World → Prop} {Q : Exit → Act → World → Prop} {a : Act} {w : World}, K a w → Exit.then K Q .normal a w := fun h => h
    refine hK ?_
    generalize w' = wb at *
    have hla := heap_lt Hra1.out
    have hlb := heap_lt Hrb1.out
    have hlc := heap_lt Hrc1.out
    generalize (canonN l).length = m4 at *
    generalize ((canonR l : Nat) : Int) = r4 at *
    go_upto_region 7 with fail
    obtain ⟨J, hJd⟩ : ∃ J : (Nat → Prop) → Act → World → Prop, J = fun (D : Nat → Prop) (ac : Act) (w' : World) => ∃ (f : Nat → Nat) (s46 s47 s48 s49 s50 s51 s52 s14 : Value), ac = ⟨((.slice P1 n1 c1) :: (.slice P2 n2 c2) :: (.slice P3 n3 c3) :: undef :: undef :: undef :: (.bool false) :: (.pointer (some ⟨w1.heap.size, 0, none⟩)) :: (.bool true) :: (.pointer (some ⟨w3.heap.size, 0, none⟩)) :: (.bool true) :: (.pointer (some ⟨w5.heap.size, 0, none⟩)) :: (.bool true) :: (.pointer (some ⟨g, 0, none⟩)) :: s14 :: (.tuple #[(.agg #[.slice p1 m1 k1, .int .i64 r1]), .bool true]) :: (.slice P1 n1 c1) :: (.tuple #[(.agg #[.slice p1 m1 k1, .int .i64 r1]), .bool true]) :: (.agg #[.slice p1 m1 k1, .int .i64 r1]) :: (.bool true) :: (.tuple #[(.agg #[.slice p2 m2 k2, .int .i64 r2]), .bool true]) :: (.slice P2 n2 c2) :: (.tuple #[(.agg #[.slice p2 m2 k2, .int .i64 r2]), .bool true]) :: (.agg #[.slice p2 m2 k2, .int .i64 r2]) :: (.bool true) :: (.tuple #[(.agg #[.slice p3 m3 k3, .int .i64 r3]), .bool true]) :: (.slice P3 n3 c3) :: (.tuple #[(.agg #[.slice p3 m3 k3, .int .i64 r3]), .bool true]) :: (.agg #[.slice p3 m3 k3, .int .i64 r3]) :: (.bool true) :: (.bool true) :: (.bool false) :: (.bool false) :: (.bool true) :: (.bool false) :: (.bool false) :: (.bool false) :: (.bool true) :: (.bool false) :: (.bool false) :: undef :: (.agg #[.slice p1 m1 k1, .int .i64 r1]) :: (.agg #[.slice p2 m2 k2, .int .i64 r2]) :: (.agg #[.slice p3 m3 k3, .int .i64 r3]) :: s44 :: (.agg #[.slice p4 m4 k4, .int .i64 r4]) :: s46 :: s47 :: s48 :: s49 :: s50 :: s51 :: s52 :: undef :: undef :: undef :: undef :: undef :: undef :: undef :: undef :: undef :: undef :: undef :: undef :: undef :: undef :: undef :: undef :: undef :: undef :: undef :: undef :: undef :: undef :: undef :: undef :: undef :: []).toArray, []⟩ ∧ Below wb.heap.size wb w' ∧ (D 0 → s46 = (.agg #[.slice p1 m1 k1, .int .i64 r1])) ∧ (D 1 → s47 = (.agg #[.slice p2 m2 k2, .int .i64 r2])) ∧ (D 2 → DV w' s48 ab) ∧ (D 3 → s49 = (.agg #[.slice p1 m1 k1, .int .i64 r1])) ∧ (D 4 → s50 = (.agg #[.slice p3 m3 k3, .int .i64 r3])) ∧ (D 5 → DV w' s51 tac) ∧ (D 6 → DV w' s52 l) ∧ (D 7 → LC f wb.heap.size 7 w' s14 fun v => D 8 → v = s52) ∧ (D 2 → D 0) ∧ (D 2 → D 1) ∧ (D 5 → D 3) ∧ (D 5 → D 4) ∧ (D 6 → D 2) ∧ (D 6 → D 5) ∧ (D 8 → D 7) ∧ (D 8 → D 6) := ⟨_, rfl⟩
    have HJ := Lib.hid hJd; clear hJd
    refine Inv.wp_region_inv J (by kernel_rfl) (by decide +kernel) ?_ ?_ ?_
    · rw [HJ.out]
      exact ⟨fun _ => 0, _, _, _, _, _, _, _, _, rfl, (Below.refl _ _).drew, fun h => h.elim, fun h => h.elim, fun h => h.elim, fun h => h.elim, fun h => h.elim, fun h => h.elim, fun h => h.elim, fun h => h.elim, fun h => h.elim, fun h => h.elim, fun h => h.elim, fun h => h.elim, fun h => h.elim, fun h => h.elim, fun h => h.elim, fun h => h.elim⟩
    · intro i op hi D ac w' hD hA hJ
      rw [HJ.out] at hJ
      obtain ⟨f, s46, s47, s48, s49, s50, s51, s52, s14, rfl, hb, h0, h1, h2, h3, h4, h5, h6, h7, g2_0, g2_1, g5_3, g5_4, g6_2, g6_5, g8_7, g8_6⟩ := hJ
      match i, hi, hA with
      | 0, hi, hA =>
        obtain rfl := Option.some.inj hi
        clear hi
        clear hA
        obtain ⟨c0, c1, -⟩ := cells2 ((hb.block _ hla).trans Hra1.out)
        have H0 := Lib.hid h0; have H1 := Lib.hid h1; have H2 := Lib.hid h2; have H3 := Lib.hid h3; have H4 := Lib.hid h4; have H5 := Lib.hid h5; have H6 := Lib.hid h6; have H7 := Lib.hid h7; have Hb := Lib.hid hb; have HD := Lib.hid hD; clear hb hD h0 h1 h2 h3 h4 h5 h6 h7
        go_wp2
        rw [HJ.out]
        exact ⟨f, _, _, _, _, _, _, _, _, rfl, Hb.out, fun _ => rfl, fun h => (H1.out (h.resolve_right (by decide))), fun h => (H2.out (h.resolve_right (by decide))), fun h => (H3.out (h.resolve_right (by decide))), fun h => (H4.out (h.resolve_right (by decide))), fun h => (H5.out (h.resolve_right (by decide))), fun h => (H6.out (h.resolve_right (by decide))), fun h => ((H7.out (h.resolve_right (by decide)))).mono fun v hc h' => hc (h'.resolve_right (by decide)), fun _ => .inr rfl, fun h => .inl (g2_1 (h.resolve_right (by decide))), fun h => .inl (g5_3 (h.resolve_right (by decide))), fun h => .inl (g5_4 (h.resolve_right (by decide))), fun h => .inl (g6_2 (h.resolve_right (by decide))), fun h => .inl (g6_5 (h.resolve_right (by decide))), fun h => .inl (g8_7 (h.resolve_right (by decide))), fun h => .inl (g8_6 (h.resolve_right (by decide)))⟩
      | 1, hi, hA =>
        obtain rfl := Option.some.inj hi
        clear hi
        clear hA
        obtain ⟨c0, c1, -⟩ := cells2 ((hb.block _ hlb).trans Hrb1.out)
        have H0 := Lib.hid h0; have H1 := Lib.hid h1; have H2 := Lib.hid h2; have H3 := Lib.hid h3; have H4 := Lib.hid h4; have H5 := Lib.hid h5; have H6 := Lib.hid h6; have H7 := Lib.hid h7; have Hb := Lib.hid hb; have HD := Lib.hid hD; clear hb hD h0 h1 h2 h3 h4 h5 h6 h7
        go_wp2
        rw [HJ.out]
        exact ⟨f, _, _, _, _, _, _, _, _, rfl, Hb.out, fun h => (H0.out (h.resolve_right (by decide))), fun _ => rfl, fun h => (H2.out (h.resolve_right (by decide))), fun h => (H3.out (h.resolve_right (by decide))), fun h => (H4.out (h.resolve_right (by decide))), fun h => (H5.out (h.resolve_right (by decide))), fun h => (H6.out (h.resolve_right (by decide))), fun h => ((H7.out (h.resolve_right (by decide)))).mono fun v hc h' => hc (h'.resolve_right (by decide)), fun h => .inl (g2_0 (h.resolve_right (by decide))), fun _ => .inr rfl, fun h => .inl (g5_3 (h.resolve_right (by decide))), fun h => .inl (g5_4 (h.resolve_right (by decide))), fun h => .inl (g6_2 (h.resolve_right (by decide))), fun h => .inl (g6_5 (h.resolve_right (by decide))), fun h => .inl (g8_7 (h.resolve_right (by decide))), fun h => .inl (g8_6 (h.resolve_right (by decide)))⟩
      | 2, hi, hA =>
        obtain rfl := Option.some.inj hi
        clear hi
        have d0 := after_of hA 0 (by decide +kernel)
        have d1 := after_of hA 1 (by decide +kernel)
        clear hA
        obtain rfl := h0 d0
        obtain rfl := h1 d1
        have hcall := andD_any _ _ ta tb ab w' (Va1.out.below hb) (Vb1.out.below hb) oab Eab.out
        have H0 := Lib.hid h0; have H1 := Lib.hid h1; have H2 := Lib.hid h2; have H3 := Lib.hid h3; have H4 := Lib.hid h4; have H5 := Lib.hid h5; have H6 := Lib.hid h6; have H7 := Lib.hid h7; have Hb := Lib.hid hb; have HD := Lib.hid hD; clear hb hD h0 h1 h2 h3 h4 h5 h6 h7
        go_wp2_with (go_at_call 13; refine hcall.mono ?_; rintro e w2 ⟨v2, rfl, q1, q2⟩; have Hq1 := Lib.hid q1; have Hq := Lib.hid q2; clear q1 q2)
        rw [HJ.out]
        exact ⟨fu f w'.heap.size 2, _, _, _, _, _, _, _, _, rfl, Hb.out.trans (Hq.out.mono Hb.out.size), fun _ => rfl, fun _ => rfl, fun _ => Hq1.out, fun h => (H3.out (h.resolve_right (by decide))), fun h => (H4.out (h.resolve_right (by decide))), fun h => ((H5.out (h.resolve_right (by decide)))).below Hq.out, fun h => ((H6.out (h.resolve_right (by decide)))).below Hq.out, fun h => (((H7.out (h.resolve_right (by decide))).grow Hq.out)).mono fun v hc h' => hc (h'.resolve_right (by decide)), fun _ => .inl d0, fun _ => .inl d1, fun h => .inl (g5_3 (h.resolve_right (by decide))), fun h => .inl (g5_4 (h.resolve_right (by decide))), fun _ => .inr rfl, fun h => .inl (g6_5 (h.resolve_right (by decide))), fun h => .inl (g8_7 (h.resolve_right (by decide))), fun h => .inl (g8_6 (h.resolve_right (by decide)))⟩
      | 3, hi, hA =>
        obtain rfl := Option.some.inj hi
        clear hi
        clear hA
        obtain ⟨c0, c1, -⟩ := cells2 ((hb.block _ hla).trans Hra1.out)
        have H0 := Lib.hid h0; have H1 := Lib.hid h1; have H2 := Lib.hid h2; have H3 := Lib.hid h3; have H4 := Lib.hid h4; have H5 := Lib.hid h5; have H6 := Lib.hid h6; have H7 := Lib.hid h7; have Hb := Lib.hid hb; have HD := Lib.hid hD; clear hb hD h0 h1 h2 h3 h4 h5 h6 h7
        go_wp2
        rw [HJ.out]
        exact ⟨f, _, _, _, _, _, _, _, _, rfl, Hb.out, fun h => (H0.out (h.resolve_right (by decide))), fun h => (H1.out (h.resolve_right (by decide))), fun h => (H2.out (h.resolve_right (by decide))), fun _ => rfl, fun h => (H4.out (h.resolve_right (by decide))), fun h => (H5.out (h.resolve_right (by decide))), fun h => (H6.out (h.resolve_right (by decide))), fun h => ((H7.out (h.resolve_right (by decide)))).mono fun v hc h' => hc (h'.resolve_right (by decide)), fun h => .inl (g2_0 (h.resolve_right (by decide))), fun h => .inl (g2_1 (h.resolve_right (by decide))), fun _ => .inr rfl, fun h => .inl (g5_4 (h.resolve_right (by decide))), fun h => .inl (g6_2 (h.resolve_right (by decide))), fun h => .inl (g6_5 (h.resolve_right (by decide))), fun h => .inl (g8_7 (h.resolve_right (by decide))), fun h => .inl (g8_6 (h.resolve_right (by decide)))⟩
      | 4, hi, hA =>
        obtain rfl := Option.some.inj hi
        clear hi
        clear hA
        obtain ⟨c0, c1, -⟩ := cells2 ((hb.block _ hlc).trans Hrc1.out)
        have H0 := Lib.hid h0; have H1 := Lib.hid h1; have H2 := Lib.hid h2; have H3 := Lib.hid h3; have H4 := Lib.hid h4; have H5 := Lib.hid h5; have H6 := Lib.hid h6; have H7 := Lib.hid h7; have Hb := Lib.hid hb; have HD := Lib.hid hD; clear hb hD h0 h1 h2 h3 h4 h5 h6 h7
        go_wp2
        rw [HJ.out]
        exact ⟨f, _, _, _, _, _, _, _, _, rfl, Hb.out, fun h => (H0.out (h.resolve_right (by decide))), fun h => (H1.out (h.resolve_right (by decide))), fun h => (H2.out (h.resolve_right (by decide))), fun h => (H3.out (h.resolve_right (by decide))), fun _ => rfl, fun h => (H5.out (h.resolve_right (by decide))), fun h => (H6.out (h.resolve_right (by decide))), fun h => ((H7.out (h.resolve_right (by decide)))).mono fun v hc h' => hc (h'.resolve_right (by decide)), fun h => .inl (g2_0 (h.resolve_right (by decide))), fun h => .inl (g2_1 (h.resolve_right (by decide))), fun h => .inl (g5_3 (h.resolve_right (by decide))), fun _ => .inr rfl, fun h => .inl (g6_2 (h.resolve_right (by decide))), fun h => .inl (g6_5 (h.resolve_right (by decide))), fun h => .inl (g8_7 (h.resolve_right (by decide))), fun h => .inl (g8_6 (h.resolve_right (by decide)))⟩
      | 5, hi, hA =>
        obtain rfl := Option.some.inj hi
        clear hi
        have d3 := after_of hA 3 (by decide +kernel)
        have d4 := after_of hA 4 (by decide +kernel)
        clear hA
        obtain rfl := h3 d3
        obtain rfl := h4 d4
        have hcall := andD_any _ _ ta tc tac w' (Va1.out.below hb) (Vc1.out.below hb) oac Eac.out
        have H0 := Lib.hid h0; have H1 := Lib.hid h1; have H2 := Lib.hid h2; have H3 := Lib.hid h3; have H4 := Lib.hid h4; have H5 := Lib.hid h5; have H6 := Lib.hid h6; have H7 := Lib.hid h7; have Hb := Lib.hid hb; have HD := Lib.hid hD; clear hb hD h0 h1 h2 h3 h4 h5 h6 h7
        go_wp2_with (go_at_call 13; refine hcall.mono ?_; rintro e w2 ⟨v2, rfl, q1, q2⟩; have Hq1 := Lib.hid q1; have Hq := Lib.hid q2; clear q1 q2)
        rw [HJ.out]
        exact ⟨fu f w'.heap.size 5, _, _, _, _, _, _, _, _, rfl, Hb.out.trans (Hq.out.mono Hb.out.size), fun h => (H0.out (h.resolve_right (by decide))), fun h => (H1.out (h.resolve_right (by decide))), fun h => ((H2.out (h.resolve_right (by decide)))).below Hq.out, fun _ => rfl, fun _ => rfl, fun _ => Hq1.out, fun h => ((H6.out (h.resolve_right (by decide)))).below Hq.out, fun h => (((H7.out (h.resolve_right (by decide))).grow Hq.out)).mono fun v hc h' => hc (h'.resolve_right (by decide)), fun h => .inl (g2_0 (h.resolve_right (by decide))), fun h => .inl (g2_1 (h.resolve_right (by decide))), fun _ => .inl d3, fun _ => .inl d4, fun h => .inl (g6_2 (h.resolve_right (by decide))), fun _ => .inr rfl, fun h => .inl (g8_7 (h.resolve_right (by decide))), fun h => .inl (g8_6 (h.resolve_right (by decide)))⟩
      | 6, hi, hA =>
        obtain rfl := Option.some.inj hi
        clear hi
        have d2 := after_of hA 2 (by decide +kernel)
        have d5 := after_of hA 5 (by decide +kernel)
        clear hA
        have hcall := orD_any _ _ ab tac l w' (h2 d2) (h5 d5) ol Er.out
        have H0 := Lib.hid h0; have H1 := Lib.hid h1; have H2 := Lib.hid h2; have H3 := Lib.hid h3; have H4 := Lib.hid h4; have H5 := Lib.hid h5; have H6 := Lib.hid h6; have H7 := Lib.hid h7; have Hb := Lib.hid hb; have HD := Lib.hid hD; clear hb hD h0 h1 h2 h3 h4 h5 h6 h7
        go_wp2_with (go_at_call 14; refine hcall.mono ?_; rintro e w2 ⟨v2, rfl, q1, q2⟩; have Hq1 := Lib.hid q1; have Hq := Lib.hid q2; clear q1 q2)
        rw [HJ.out]
        exact ⟨fu f w'.heap.size 6, _, _, _, _, _, _, _, _, rfl, Hb.out.trans (Hq.out.mono Hb.out.size), fun h => (H0.out (h.resolve_right (by decide))), fun h => (H1.out (h.resolve_right (by decide))), fun h => ((H2.out (h.resolve_right (by decide)))).below Hq.out, fun h => (H3.out (h.resolve_right (by decide))), fun h => (H4.out (h.resolve_right (by decide))), fun h => ((H5.out (h.resolve_right (by decide)))).below Hq.out, fun _ => Hq1.out, fun h => (((H7.out (h.resolve_right (by decide))).grow Hq.out)).mono fun v hc h' => (HD.out (g8_6 (h'.resolve_right (by decide)))).elim, fun h => .inl (g2_0 (h.resolve_right (by decide))), fun h => .inl (g2_1 (h.resolve_right (by decide))), fun h => .inl (g5_3 (h.resolve_right (by decide))), fun h => .inl (g5_4 (h.resolve_right (by decide))), fun _ => .inl d2, fun _ => .inl d5, fun h => .inl (g8_7 (h.resolve_right (by decide))), fun _ => .inr rfl⟩
      | 7, hi, hA =>
        obtain rfl := Option.some.inj hi
        clear hi
        clear hA
        have hst : ¬ D 8 := fun h => hD (g8_7 h)
        have H0 := Lib.hid h0; have H1 := Lib.hid h1; have H2 := Lib.hid h2; have H3 := Lib.hid h3; have H4 := Lib.hid h4; have H5 := Lib.hid h5; have H6 := Lib.hid h6; have H7 := Lib.hid h7; have Hb := Lib.hid hb; have HD := Lib.hid hD; clear hb hD h0 h1 h2 h3 h4 h5 h6 h7; have Hst := Lib.hid hst; clear hst
        go_wp2
        have Hq := Lib.hid ((Below.refl w'.heap.size w').alloc (Nat.le_refl _) (.cells #[.slice none 0 0, .int .i64 0] 24))
        rw [HJ.out]
        exact ⟨fu f w'.heap.size 7, _, _, _, _, _, _, _, _, rfl, Hb.out.trans (Hq.out.mono Hb.out.size), fun h => (H0.out (h.resolve_right (by decide))), fun h => (H1.out (h.resolve_right (by decide))), fun h => ((H2.out (h.resolve_right (by decide)))).below Hq.out, fun h => (H3.out (h.resolve_right (by decide))), fun h => (H4.out (h.resolve_right (by decide))), fun h => ((H5.out (h.resolve_right (by decide)))).below Hq.out, fun h => ((H6.out (h.resolve_right (by decide)))).below Hq.out, fun _ => LC.new _ _ Hb.out.size fun h => (Hst.out (h.resolve_right (by decide))).elim, fun h => .inl (g2_0 (h.resolve_right (by decide))), fun h => .inl (g2_1 (h.resolve_right (by decide))), fun h => .inl (g5_3 (h.resolve_right (by decide))), fun h => .inl (g5_4 (h.resolve_right (by decide))), fun h => .inl (g6_2 (h.resolve_right (by decide))), fun h => .inl (g6_5 (h.resolve_right (by decide))), fun _ => .inr rfl, fun h => .inl (g8_6 (h.resolve_right (by decide)))⟩
      | 8, hi, hA =>
        obtain rfl := Option.some.inj hi
        clear hi
        have d7 := after_of hA 7 (by decide +kernel)
        have d6 := after_of hA 6 (by decide +kernel)
        clear hA
        obtain ⟨g, x, y, rfl, hg1, hg2, hg3, hg4⟩ := h7 d7
        have hv := h6 d6
        obtain ⟨pq, cq, rfl, -⟩ := id hv.dd.ex
        have H0 := Lib.hid h0; have H1 := Lib.hid h1; have H2 := Lib.hid h2; have H3 := Lib.hid h3; have H4 := Lib.hid h4; have H5 := Lib.hid h5; have H6 := Lib.hid h6; have Hb := Lib.hid hb; have HD := Lib.hid hD; have Hv := Lib.hid hv; have Hg1 := Lib.hid hg1; have Hg2 := Lib.hid hg2; have Hg3 := Lib.hid hg3; clear hb hD hv hg1 hg2 hg3 hg4 h0 h1 h2 h3 h4 h5 h6 h7
        go_wp2_with (with_reducible refine wpList_store_row rfl 24 (.tmp 14) (.tmp 52) rfl _ _ rfl rfl _ _ Hg3.out (by kernel_rfl) (by kernel_rfl) (by kernel_rfl) ?_)
        rw [HJ.out]
        exact ⟨f, _, _, _, _, _, _, _, _, rfl, below_setRow Hb.out Hg1.out, fun h => (H0.out (h.resolve_right (by decide))), fun h => (H1.out (h.resolve_right (by decide))), fun h => ((H2.out (h.resolve_right (by decide)))).setRow Hg3.out, fun h => (H3.out (h.resolve_right (by decide))), fun h => (H4.out (h.resolve_right (by decide))), fun h => ((H5.out (h.resolve_right (by decide)))).setRow Hg3.out, fun _ => Hv.out.setRow Hg3.out, fun _ => ⟨g, _, _, rfl, Hg1.out, Hg2.out, setRow_heap _ _ _ _ _ _ Hg3.out, fun _ => rfl⟩, fun h => .inl (g2_0 (h.resolve_right (by decide))), fun h => .inl (g2_1 (h.resolve_right (by decide))), fun h => .inl (g5_3 (h.resolve_right (by decide))), fun h => .inl (g5_4 (h.resolve_right (by decide))), fun h => .inl (g6_2 (h.resolve_right (by decide))), fun h => .inl (g6_5 (h.resolve_right (by decide))), fun _ => .inl d7, fun _ => .inl d6⟩
      | n + 9, hi, hA => cases hi
    · intro D ac w' hall hJ
      rw [HJ.out] at hJ
      obtain ⟨f, s46, s47, s48, s49, s50, s51, s52, s14, rfl, hb, h0, h1, h2, h3, h4, h5, h6, h7, g2_0, g2_1, g5_3, g5_4, g6_2, g6_5, g8_7, g8_6⟩ := hJ
      have hd : ∀ i, i < 9 → D i := hall
      clear hall
      obtain ⟨g2, x2, y2, rfl, hf1, hf2, hf3, hf4⟩ := h7 (hd 7 (by decide))
      have hx := hf4 (hd 8 (by decide))
      have hdr := h6 (hd 6 (by decide))
      obtain rfl := h0 (hd 0 (by decide))
      obtain rfl := h1 (hd 1 (by decide))
      obtain rfl := h3 (hd 3 (by decide))
      obtain rfl := h4 (hd 4 (by decide))
      subst hx
      obtain ⟨p5, k5, e5, -⟩ := id hdr.dd.ex
      simp only [Value.agg.injEq, Array.mk.injEq, List.cons.injEq, and_true] at e5
      obtain ⟨rfl, rfl⟩ := e5
      have W5 := Lib.hid hdr; have Hrr := Lib.hid hf3
      have Bz := Lib.hid (Bq.out.step hb)
      have Va2 := Lib.hid (Va1.out.below hb); have Vb2 := Lib.hid (Vb1.out.below hb)
      have Hra2 := Lib.hid ((hb.block _ hla).trans Hra1.out); have Hrb2 := Lib.hid ((hb.block _ hlb).trans Hrb1.out)
      have W4 := Lib.hid (Hdl.out.below hb); have Hrl2 := Lib.hid ((hb.block _ (heap_lt Hrl.out)).trans Hrl.out)
      clear HJ J hd h0 h1 h2 h3 h4 h5 h6 h7 hdr hb hf3 hf4 hf2 Hra1 Hrb1 Hrc1 Va1 Vb1 Vc1 hla hlb hlc Hdl Hrl Bq
      generalize (canonN l).length = m5 at *
      generalize ((canonR l : Nat) : Int) = r5 at *
      refine hK ?_
      generalize w' = wz at *
      go_upto_region 8 with fail
      have Y0a := Lib.hid (show wz.drew.cell? ⟨w1.heap.size, 0, none⟩ = _ from (cells2 Hra2.out).1)
      have La := Lib.hid (show w1.heap.size < wz.drew.heap.size from heap_lt Hra2.out)
      have Ra := Lib.hid (show wz.drew.heap[w1.heap.size]? = _ from Hra2.out)
      have Y0b := Lib.hid (show wz.drew.cell? ⟨w3.heap.size, 0, none⟩ = _ from (cells2 Hrb2.out).1)
      have Lb := Lib.hid (show w3.heap.size < wz.drew.heap.size from heap_lt Hrb2.out)
      have Rb := Lib.hid (show wz.drew.heap[w3.heap.size]? = _ from Hrb2.out)
      have Y0l := Lib.hid (show wz.drew.cell? ⟨g, 0, none⟩ = _ from (cells2 Hrl2.out).1)
      have Ll := Lib.hid (show g < wz.drew.heap.size from heap_lt Hrl2.out)
      have Rl := Lib.hid (show wz.drew.heap[g]? = _ from Hrl2.out)
      have Y0r := Lib.hid (show wz.drew.cell? ⟨g2, 0, none⟩ = _ from (cells2 Hrr.out).1)
      have Lr := Lib.hid (show g2 < wz.drew.heap.size from heap_lt Hrr.out)
      have Rr := Lib.hid (show wz.drew.heap[g2]? = _ from Hrr.out)
      have B0 := Lib.hid (show Below wz.heap.size wz wz.drew from (Below.refl _ _).drew)
      obtain ⟨z0a, z1a, -⟩ := cells2 Hra2.out
      obtain ⟨z0b, z1b, -⟩ := cells2 Hrb2.out
      obtain ⟨z0l, z1l, -⟩ := cells2 Hrl2.out
      obtain ⟨z0r, z1r, -⟩ := cells2 Hrr.out
      go_wp2_with (first
        | ((with_reducible refine Lex.at_finK ?_); refine LexK.finE_on (by kernel_rfl) (by repeat first | exact LexK.finL_nil | refine LexK.finL_none rfl ?_ | refine LexK.finL_skip (by decide +kernel) ?_ | refine LexK.finL_take rfl La.out Y0a.out ?_ | refine LexK.finL_take rfl Lb.out Y0b.out ?_ | refine LexK.finL_take rfl Ll.out Y0l.out ?_ | refine LexK.finL_take rfl Lr.out Y0r.out ?_) ?_)
        | ((with_reducible refine Lex.at_region ?_); refine LexK.wp_region_lexE (fun x => x < wz.drew.heap.size) (by kernel_rfl) (by decide +kernel) ?_)
        | ((with_reducible refine Lex.at_wpX ?_); with_reducible refine LexK.wpX_plain (by decide +kernel) ?_)
        | ((with_reducible refine Lex.at_wpX ?_); with_reducible refine LexK.wpX_call ?_)
        | ((with_reducible refine Lex.at_wpX ?_); with_reducible refine LexK.wpX_nil ?_)
        | ((with_reducible refine Lex.at_ext ?_); with_reducible refine LexK.ext_on Hext.out ?_)
        | (go_at_call 15; ((with_reducible refine (eqd_same _ _ l _ (W4.out.below B0.out) (W5.out.below B0.out)).mono ?_); rintro e x0 ⟨rfl, q⟩;  have Hext := Lib.hid (LexK.Ext.of_below (Kp := fun x => x < wz.drew.heap.size) q (Nat.le_refl _)); have B1 := Lib.hid (B0.out.step q); have q0 : Below wz.drew.heap.size wz.drew x0 := q; have Q0 := Lib.hid q0; obtain ⟨u0a, t0a, -⟩ := cells2 ((q0.block _ La.out).trans Ra.out); obtain ⟨u0b, t0b, -⟩ := cells2 ((q0.block _ Lb.out).trans Rb.out); obtain ⟨u0l, t0l, -⟩ := cells2 ((q0.block _ Ll.out).trans Rl.out); obtain ⟨u0r, t0r, -⟩ := cells2 ((q0.block _ Lr.out).trans Rr.out); clear q q0))
        | (go_at_call 16; ((with_reducible refine (notD_any _ ta na _ (Va2.out.below B1.out) ona Ena.out).mono ?_); rintro e x1 ⟨v1, rfl, d, q⟩;  have Hd1 := Lib.hid d; have Hext := Lib.hid (LexK.Ext.of_below (Kp := fun x => x < wz.drew.heap.size) q (Nat.le_refl _)); have B2 := Lib.hid (B1.out.step q); have q0 : Below wz.drew.heap.size wz.drew x1 := Q0.out.trans (q.mono Q0.out.size); have Q1 := Lib.hid q0; obtain ⟨u1a, t1a, -⟩ := cells2 ((q0.block _ La.out).trans Ra.out); obtain ⟨u1b, t1b, -⟩ := cells2 ((q0.block _ Lb.out).trans Rb.out); obtain ⟨u1l, t1l, -⟩ := cells2 ((q0.block _ Ll.out).trans Rl.out); obtain ⟨u1r, t1r, -⟩ := cells2 ((q0.block _ Lr.out).trans Rr.out); clear d q q0))
        | (go_at_call 16; ((with_reducible refine (notD_any _ na ta _ Hd1.out oa Ena2.out).mono ?_); rintro e x2 ⟨v2, rfl, d, q⟩; have Hd1 := Lib.hid (Hd1.out.below q); have Hd2 := Lib.hid d; have Hext := Lib.hid (LexK.Ext.of_below (Kp := fun x => x < wz.drew.heap.size) q (Nat.le_refl _)); have B3 := Lib.hid (B2.out.step q); have q0 : Below wz.drew.heap.size wz.drew x2 := Q1.out.trans (q.mono Q1.out.size); have Q2 := Lib.hid q0; obtain ⟨u2a, t2a, -⟩ := cells2 ((q0.block _ La.out).trans Ra.out); obtain ⟨u2b, t2b, -⟩ := cells2 ((q0.block _ Lb.out).trans Rb.out); obtain ⟨u2l, t2l, -⟩ := cells2 ((q0.block _ Ll.out).trans Rl.out); obtain ⟨u2r, t2r, -⟩ := cells2 ((q0.block _ Lr.out).trans Rr.out); clear d q q0))
        | (go_at_call 15; ((with_reducible refine (eqd_same _ _ ta _ Hd2.out (Va2.out.below B3.out)).mono ?_); rintro e x3 ⟨rfl, q⟩; have Hd1 := Lib.hid (Hd1.out.below q); have Hd2 := Lib.hid (Hd2.out.below q); have Hext := Lib.hid (LexK.Ext.of_below (Kp := fun x => x < wz.drew.heap.size) q (Nat.le_refl _)); have B4 := Lib.hid (B3.out.step q); have q0 : Below wz.drew.heap.size wz.drew x3 := Q2.out.trans (q.mono Q2.out.size); have Q3 := Lib.hid q0; obtain ⟨u3a, t3a, -⟩ := cells2 ((q0.block _ La.out).trans Ra.out); obtain ⟨u3b, t3b, -⟩ := cells2 ((q0.block _ Lb.out).trans Rb.out); obtain ⟨u3l, t3l, -⟩ := cells2 ((q0.block _ Ll.out).trans Rl.out); obtain ⟨u3r, t3r, -⟩ := cells2 ((q0.block _ Lr.out).trans Rr.out); clear q q0))
        | (go_at_call 13; ((with_reducible refine (andD_any _ _ ta tb ab _ (Va2.out.below B4.out) (Vb2.out.below B4.out) oab Eab.out).mono ?_); rintro e x4 ⟨v4, rfl, d, q⟩; have Hd1 := Lib.hid (Hd1.out.below q); have Hd2 := Lib.hid (Hd2.out.below q); have Hd4 := Lib.hid d; have Hext := Lib.hid (LexK.Ext.of_below (Kp := fun x => x < wz.drew.heap.size) q (Nat.le_refl _)); have B5 := Lib.hid (B4.out.step q); have q0 : Below wz.drew.heap.size wz.drew x4 := Q3.out.trans (q.mono Q3.out.size); have Q4 := Lib.hid q0; obtain ⟨u4a, t4a, -⟩ := cells2 ((q0.block _ La.out).trans Ra.out); obtain ⟨u4b, t4b, -⟩ := cells2 ((q0.block _ Lb.out).trans Rb.out); obtain ⟨u4l, t4l, -⟩ := cells2 ((q0.block _ Ll.out).trans Rl.out); obtain ⟨u4r, t4r, -⟩ := cells2 ((q0.block _ Lr.out).trans Rr.out); clear d q q0))
        | (go_at_call 16; ((with_reducible refine (notD_any _ ab nab _ Hd4.out onab Enab.out).mono ?_); rintro e x5 ⟨v5, rfl, d, q⟩; have Hd1 := Lib.hid (Hd1.out.below q); have Hd2 := Lib.hid (Hd2.out.below q); have Hd4 := Lib.hid (Hd4.out.below q); have Hd5 := Lib.hid d; have Hext := Lib.hid (LexK.Ext.of_below (Kp := fun x => x < wz.drew.heap.size) q (Nat.le_refl _)); have B6 := Lib.hid (B5.out.step q); have q0 : Below wz.drew.heap.size wz.drew x5 := Q4.out.trans (q.mono Q4.out.size); have Q5 := Lib.hid q0; obtain ⟨u5a, t5a, -⟩ := cells2 ((q0.block _ La.out).trans Ra.out); obtain ⟨u5b, t5b, -⟩ := cells2 ((q0.block _ Lb.out).trans Rb.out); obtain ⟨u5l, t5l, -⟩ := cells2 ((q0.block _ Ll.out).trans Rl.out); obtain ⟨u5r, t5r, -⟩ := cells2 ((q0.block _ Lr.out).trans Rr.out); clear d q q0))
        | (go_at_call 16; ((with_reducible refine (notD_any _ ta na _ (Va2.out.below B6.out) ona Ena.out).mono ?_); rintro e x6 ⟨v6, rfl, d, q⟩; have Hd1 := Lib.hid (Hd1.out.below q); have Hd2 := Lib.hid (Hd2.out.below q); have Hd4 := Lib.hid (Hd4.out.below q); have Hd5 := Lib.hid (Hd5.out.below q); have Hd6 := Lib.hid d; have Hext := Lib.hid (LexK.Ext.of_below (Kp := fun x => x < wz.drew.heap.size) q (Nat.le_refl _)); have B7 := Lib.hid (B6.out.step q); have q0 : Below wz.drew.heap.size wz.drew x6 := Q5.out.trans (q.mono Q5.out.size); have Q6 := Lib.hid q0; obtain ⟨u6a, t6a, -⟩ := cells2 ((q0.block _ La.out).trans Ra.out); obtain ⟨u6b, t6b, -⟩ := cells2 ((q0.block _ Lb.out).trans Rb.out); obtain ⟨u6l, t6l, -⟩ := cells2 ((q0.block _ Ll.out).trans Rl.out); obtain ⟨u6r, t6r, -⟩ := cells2 ((q0.block _ Lr.out).trans Rr.out); clear d q q0))
        | (go_at_call 16; ((with_reducible refine (notD_any _ tb nb _ (Vb2.out.below B7.out) onb Enb.out).mono ?_); rintro e x7 ⟨v7, rfl, d, q⟩; have Hd1 := Lib.hid (Hd1.out.below q); have Hd2 := Lib.hid (Hd2.out.below q); have Hd4 := Lib.hid (Hd4.out.below q); have Hd5 := Lib.hid (Hd5.out.below q); have Hd6 := Lib.hid (Hd6.out.below q); have Hd7 := Lib.hid d; have Hext := Lib.hid (LexK.Ext.of_below (Kp := fun x => x < wz.drew.heap.size) q (Nat.le_refl _)); have B8 := Lib.hid (B7.out.step q); have q0 : Below wz.drew.heap.size wz.drew x7 := Q6.out.trans (q.mono Q6.out.size); have Q7 := Lib.hid q0; obtain ⟨u7a, t7a, -⟩ := cells2 ((q0.block _ La.out).trans Ra.out); obtain ⟨u7b, t7b, -⟩ := cells2 ((q0.block _ Lb.out).trans Rb.out); obtain ⟨u7l, t7l, -⟩ := cells2 ((q0.block _ Ll.out).trans Rl.out); obtain ⟨u7r, t7r, -⟩ := cells2 ((q0.block _ Lr.out).trans Rr.out); clear d q q0))
        | (go_at_call 14; ((with_reducible refine (orD_any _ _ na nb nab _ Hd6.out Hd7.out onab Enab2.out).mono ?_); rintro e x8 ⟨v8, rfl, d, q⟩; have Hd1 := Lib.hid (Hd1.out.below q); have Hd2 := Lib.hid (Hd2.out.below q); have Hd4 := Lib.hid (Hd4.out.below q); have Hd5 := Lib.hid (Hd5.out.below q); have Hd6 := Lib.hid (Hd6.out.below q); have Hd7 := Lib.hid (Hd7.out.below q); have Hd8 := Lib.hid d; have Hext := Lib.hid (LexK.Ext.of_below (Kp := fun x => x < wz.drew.heap.size) q (Nat.le_refl _)); have B9 := Lib.hid (B8.out.step q); have q0 : Below wz.drew.heap.size wz.drew x8 := Q7.out.trans (q.mono Q7.out.size); have Q8 := Lib.hid q0; obtain ⟨u8a, t8a, -⟩ := cells2 ((q0.block _ La.out).trans Ra.out); obtain ⟨u8b, t8b, -⟩ := cells2 ((q0.block _ Lb.out).trans Rb.out); obtain ⟨u8l, t8l, -⟩ := cells2 ((q0.block _ Ll.out).trans Rl.out); obtain ⟨u8r, t8r, -⟩ := cells2 ((q0.block _ Lr.out).trans Rr.out); clear d q q0))
        | (go_at_call 15; ((with_reducible refine (eqd_same _ _ nab _ Hd5.out Hd8.out).mono ?_); rintro e x9 ⟨rfl, q⟩; have Hd1 := Lib.hid (Hd1.out.below q); have Hd2 := Lib.hid (Hd2.out.below q); have Hd4 := Lib.hid (Hd4.out.below q); have Hd5 := Lib.hid (Hd5.out.below q); have Hd6 := Lib.hid (Hd6.out.below q); have Hd7 := Lib.hid (Hd7.out.below q); have Hd8 := Lib.hid (Hd8.out.below q); have Hext := Lib.hid (LexK.Ext.of_below (Kp := fun x => x < wz.drew.heap.size) q (Nat.le_refl _)); have B10 := Lib.hid (B9.out.step q); have q0 : Below wz.drew.heap.size wz.drew x9 := Q8.out.trans (q.mono Q8.out.size); have Q9 := Lib.hid q0; obtain ⟨u9a, t9a, -⟩ := cells2 ((q0.block _ La.out).trans Ra.out); obtain ⟨u9b, t9b, -⟩ := cells2 ((q0.block _ Lb.out).trans Rb.out); obtain ⟨u9l, t9l, -⟩ := cells2 ((q0.block _ Ll.out).trans Rl.out); obtain ⟨u9r, t9r, -⟩ := cells2 ((q0.block _ Lr.out).trans Rr.out); clear q q0))
        | (go_at_call 9; ((with_reducible refine (awake_any _).mono ?_); rintro e x10 ⟨rfl, q⟩; have Hd1 := Lib.hid (Hd1.out.below q); have Hd2 := Lib.hid (Hd2.out.below q); have Hd4 := Lib.hid (Hd4.out.below q); have Hd5 := Lib.hid (Hd5.out.below q); have Hd6 := Lib.hid (Hd6.out.below q); have Hd7 := Lib.hid (Hd7.out.below q); have Hd8 := Lib.hid (Hd8.out.below q); have Hext := Lib.hid (LexK.Ext.of_below (Kp := fun x => x < wz.drew.heap.size) q (Nat.le_refl _)); have B11 := Lib.hid (B10.out.step q); have q0 : Below wz.drew.heap.size wz.drew x10 := Q9.out.trans (q.mono Q9.out.size); have Q10 := Lib.hid q0; obtain ⟨u10a, t10a, -⟩ := cells2 ((q0.block _ La.out).trans Ra.out); obtain ⟨u10b, t10b, -⟩ := cells2 ((q0.block _ Lb.out).trans Rb.out); obtain ⟨u10l, t10l, -⟩ := cells2 ((q0.block _ Ll.out).trans Rl.out); obtain ⟨u10r, t10r, -⟩ := cells2 ((q0.block _ Lr.out).trans Rr.out); clear q q0)))
      go_ret
      exact ⟨rfl, Bz.out.step B11.out⟩
end Go.Proofs.Ytkppcibffbnhoaa
