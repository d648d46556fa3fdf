/-
  Walks: DiagramRestricts.
-/
import Derived.Test.YtkppcibffbnhoaaL2
import Derived.Test.YtkppcibffbnhoaaM3
import Derived.Test.YtkppcibffbnhoaaI3
namespace Go.Proofs.Ytkppcibffbnhoaa
open Go.RowKit
set_option maxRecDepth 100000

theorem rst_id {t : T} (o : t.Ok) : Rst (-1) true t t := ⟨o, fun a => by rw [show updI a (-1) true = a by funext i; unfold updI; rw [if_neg (by omega)]]⟩
theorem joined_ev {l : Nat} {t H G : T} (hH : Rst (l : Int) true t H) (hG : Rst (l : Int) false t G) (a : Nat → Bool) : t.ev a = ((a l && H.ev a) || (!(a l) && G.ev a)) := by
  rw [hH.ev, hG.ev, updI_upd, updI_upd]
  cases h : a l
  · have := upd_self a l
    rw [h] at this
    simp [this]
  · have := upd_self a l
    rw [h] at this
    simp [this]
set_option maxHeartbeats 32000000 in
theorem restricts_walk (P1 : Option Addr) (n1 c1 : Nat) (ps1 : List IP) (x : Int) (w : World) (h1 : PS w P1 n1 ps1) :
    Calls Try.prog 8 #[.slice P1 n1 c1, .int .i64 x] w (ER true w) := by
  have hd1 := (drawn_any P1 n1 c1 ps1 w h1).mono fun _ _ => DR.parts
  clear h1
  go_enter Try.func8, Try.ntmps8
  go_upto_region 2 with (go_at_call 10; refine hd1.mono ?_; rintro e w1 ⟨p1, m1, k1, r1, b1, rfl, q1, ht1⟩; have Q1 := Lib.hid q1; have HT1 := Lib.hid ht1; clear q1 ht1)
  have hal1 : Below w1.heap.size w1 (w1.alloc (.cells #[.slice p1 m1 k1, .int .i64 r1] 24)) := (Below.refl _ _).alloc (Nat.le_refl _) _
  have hn1 := heap_alloc_new w1 (.cells #[.slice p1 m1 k1, .int .i64 r1] 24)
  generalize w1.alloc (.cells #[.slice p1 m1 k1, .int .i64 r1] 24) = wb at *
  have A1' := Lib.hid hal1; have Hrd := Lib.hid hn1; have B2 := Lib.hid (Q1.out.step hal1)
  clear hal1 hn1 hd1
  cases b1
  case false => go_wp2_with (go_at_call 9; refine (awake_any _).mono ?_; rintro e w9 ⟨rfl, q9⟩; have Q9 := Lib.hid q9; clear q9)
                go_ret
                exact ⟨rfl, B2.out.step Q9.out⟩
  obtain ⟨ta, da, -⟩ := HT1.out rfl
  have oa := da.ok
  have Va := Lib.hid (da.below A1'.out)
  clear da HT1 Q1 A1'
  go_upto_region 5 with fail
  obtain ⟨l, hl12, e12⟩ := rem_nat x 12 (by omega) (by omega)
  rw [show wrap64 ((IntKind.u64.wrap x).tmod 12) = (l : Int) from e12]
  clear e12
  obtain ⟨H, rH⟩ := rst_ex oa (l : Int) true
  obtain ⟨G, rG⟩ := rst_ex oa (l : Int) false
  have RH := Lib.hid rH; have RG := Lib.hid rG
  have hasI := Lib.hid (has_iff oa rH rG)
  obtain ⟨A1, oA1, ea1⟩ := and_tree (litT_ok hl12) rH.ok
  obtain ⟨NO, oNO, eno⟩ := not_tree (litT_ok hl12)
  obtain ⟨A2, oA2, ea2⟩ := and_tree oNO rG.ok
  have eA1 := Lib.hid ea1; have eNO := Lib.hid eno; have eA2 := Lib.hid ea2
  have eta := Lib.hid (show ∀ a, ta.ev a = (A1.ev a || A2.ev a) from fun a => by rw [ea1, ea2, eno, litT_ev]; exact joined_ev rH rG a)
  clear ea1 eno ea2 rH rG
  have hld := heap_lt Hrd.out
  obtain ⟨J, hJd⟩ : ∃ J : (Nat → Prop) → Act → World → Prop, J = fun (D : Nat → Prop) (ac : Act) (w' : World) => ∃ (f : Nat → Nat) (s28 s29 s30 s31 s32 s33 s8 s9 s24 s25 s26 s27 : Value), ac = ⟨((.slice P1 n1 c1) :: (.int .i64 x) :: undef :: undef :: (.bool false) :: (.pointer (some ⟨w1.heap.size, 0, none⟩)) :: (.bool true) :: (.int .i64 (l : Int)) :: s8 :: s9 :: undef :: undef :: undef :: undef :: undef :: undef :: (.tuple #[(.agg #[.slice p1 m1 k1, .int .i64 r1]), .bool true]) :: (.slice P1 n1 c1) :: (.tuple #[(.agg #[.slice p1 m1 k1, .int .i64 r1]), .bool true]) :: (.agg #[.slice p1 m1 k1, .int .i64 r1]) :: (.bool true) :: (.bool true) :: (.bool false) :: undef :: s24 :: s25 :: s26 :: s27 :: s28 :: s29 :: s30 :: s31 :: s32 :: s33 :: undef :: undef :: undef :: undef :: undef :: undef :: undef :: undef :: undef :: undef :: undef :: undef :: undef :: undef :: undef :: undef :: undef :: undef :: undef :: undef :: undef :: undef :: undef :: undef :: undef :: undef :: undef :: undef :: undef :: undef :: undef :: undef :: undef :: undef :: undef :: undef :: undef :: undef :: undef :: undef :: undef :: undef :: undef :: undef :: undef :: undef :: undef :: undef :: undef :: undef :: undef :: undef :: undef :: undef :: undef :: undef :: undef :: undef :: undef :: undef :: undef :: undef :: undef :: undef :: undef :: undef :: undef :: undef :: undef :: undef :: undef :: undef :: undef :: undef :: undef :: []).toArray, []⟩ ∧ Below wb.heap.size wb w' ∧ (D 0 → s28 = (.agg #[.slice p1 m1 k1, .int .i64 r1])) ∧ (D 1 → s29 = (.int .i64 (l : Int))) ∧ (D 2 → DV w' s30 H) ∧ (D 3 → s31 = (.agg #[.slice p1 m1 k1, .int .i64 r1])) ∧ (D 4 → s32 = (.int .i64 (l : Int))) ∧ (D 5 → DV w' s33 G) ∧ (D 6 → LC f wb.heap.size 6 w' s8 fun v => D 8 → v = s30) ∧ (D 7 → LC f wb.heap.size 7 w' s9 fun v => D 9 → v = s33) ∧ (D 2 → D 0) ∧ (D 2 → D 1) ∧ (D 5 → D 3) ∧ (D 5 → D 4) ∧ (D 8 → D 6) ∧ (D 8 → D 2) ∧ (D 9 → D 7) ∧ (D 9 → D 5) := ⟨_, rfl⟩
  have HJ := Lib.hid hJd; clear hJd
  refine Inv.wp_region_inv J (by kernel_rfl) (by decide +kernel) ?_ ?_ ?_
  · rw [HJ.out]
    exact ⟨fun _ => 0, _, _, _, _, _, _, _, _, _, _, _, _, rfl, (Below.refl _ _).drew, fun h => h.elim, fun h => h.elim, fun h => h.elim, fun h => h.elim, fun h => h.elim, fun h => h.elim, fun h => h.elim, fun h => h.elim, fun h => h.elim, fun h => h.elim, fun h => h.elim, fun h => h.elim, fun h => h.elim, fun h => h.elim, fun h => h.elim, fun h => h.elim⟩
  · intro i op hi D ac w' hD hA hJ
    rw [HJ.out] at hJ
    obtain ⟨f, s28, s29, s30, s31, s32, s33, s8, s9, s24, s25, s26, s27, rfl, hb, h0, h1, h2, h3, h4, h5, h6, h7, g2_0, g2_1, g5_3, g5_4, g8_6, g8_2, g9_7, g9_5⟩ := hJ
    match i, hi, hA with
    | 0, hi, hA =>
      obtain rfl := Option.some.inj hi
      clear hi
      clear hA
      obtain ⟨c0, c1, -⟩ := cells2 ((hb.block _ hld).trans Hrd.out)
      have H0 := Lib.hid h0; have H1 := Lib.hid h1; have H2 := Lib.hid h2; have H3 := Lib.hid h3; have H4 := Lib.hid h4; have H5 := Lib.hid h5; have H6 := Lib.hid h6; have H7 := Lib.hid h7; have Hb := Lib.hid hb; have HD := Lib.hid hD; clear hb hD h0 h1 h2 h3 h4 h5 h6 h7
      go_wp2
      rw [HJ.out]
      exact ⟨f, _, _, _, _, _, _, _, _, _, _, _, _, rfl, Hb.out, fun _ => rfl, fun h => (H1.out (h.resolve_right (by decide))), fun h => (H2.out (h.resolve_right (by decide))), fun h => (H3.out (h.resolve_right (by decide))), fun h => (H4.out (h.resolve_right (by decide))), fun h => (H5.out (h.resolve_right (by decide))), fun h => ((H6.out (h.resolve_right (by decide)))).mono fun v hc h' => hc (h'.resolve_right (by decide)), fun h => ((H7.out (h.resolve_right (by decide)))).mono fun v hc h' => hc (h'.resolve_right (by decide)), fun _ => .inr rfl, fun h => .inl (g2_1 (h.resolve_right (by decide))), fun h => .inl (g5_3 (h.resolve_right (by decide))), fun h => .inl (g5_4 (h.resolve_right (by decide))), fun h => .inl (g8_6 (h.resolve_right (by decide))), fun h => .inl (g8_2 (h.resolve_right (by decide))), fun h => .inl (g9_7 (h.resolve_right (by decide))), fun h => .inl (g9_5 (h.resolve_right (by decide)))⟩
    | 1, hi, hA =>
      obtain rfl := Option.some.inj hi
      clear hi
      clear hA
      have H0 := Lib.hid h0; have H1 := Lib.hid h1; have H2 := Lib.hid h2; have H3 := Lib.hid h3; have H4 := Lib.hid h4; have H5 := Lib.hid h5; have H6 := Lib.hid h6; have H7 := Lib.hid h7; have Hb := Lib.hid hb; have HD := Lib.hid hD; clear hb hD h0 h1 h2 h3 h4 h5 h6 h7
      go_wp2
      rw [HJ.out]
      exact ⟨f, _, _, _, _, _, _, _, _, _, _, _, _, rfl, Hb.out, fun h => (H0.out (h.resolve_right (by decide))), fun _ => rfl, fun h => (H2.out (h.resolve_right (by decide))), fun h => (H3.out (h.resolve_right (by decide))), fun h => (H4.out (h.resolve_right (by decide))), fun h => (H5.out (h.resolve_right (by decide))), fun h => ((H6.out (h.resolve_right (by decide)))).mono fun v hc h' => hc (h'.resolve_right (by decide)), fun h => ((H7.out (h.resolve_right (by decide)))).mono fun v hc h' => hc (h'.resolve_right (by decide)), fun h => .inl (g2_0 (h.resolve_right (by decide))), fun _ => .inr rfl, fun h => .inl (g5_3 (h.resolve_right (by decide))), fun h => .inl (g5_4 (h.resolve_right (by decide))), fun h => .inl (g8_6 (h.resolve_right (by decide))), fun h => .inl (g8_2 (h.resolve_right (by decide))), fun h => .inl (g9_7 (h.resolve_right (by decide))), fun h => .inl (g9_5 (h.resolve_right (by decide)))⟩
    | 2, hi, hA =>
      obtain rfl := Option.some.inj hi
      clear hi
      have d0 := after_of hA 0 (by decide +kernel)
      have d1 := after_of hA 1 (by decide +kernel)
      clear hA
      obtain rfl := h0 d0
      obtain rfl := h1 d1
      have hcall := restrict_any _ (l : Int) true ta H w' (Va.out.below hb) RH.out
      have H0 := Lib.hid h0; have H1 := Lib.hid h1; have H2 := Lib.hid h2; have H3 := Lib.hid h3; have H4 := Lib.hid h4; have H5 := Lib.hid h5; have H6 := Lib.hid h6; have H7 := Lib.hid h7; have Hb := Lib.hid hb; have HD := Lib.hid hD; clear hb hD h0 h1 h2 h3 h4 h5 h6 h7
      go_wp2_with (go_at_call 25; refine hcall.mono ?_; rintro e w2 ⟨v2, rfl, q1, q2⟩; have Hq1 := Lib.hid q1; have Hq := Lib.hid q2; clear q1 q2)
      rw [HJ.out]
      exact ⟨fu f w'.heap.size 2, _, _, _, _, _, _, _, _, _, _, _, _, rfl, Hb.out.trans (Hq.out.mono Hb.out.size), fun _ => rfl, fun _ => rfl, fun _ => Hq1.out, fun h => (H3.out (h.resolve_right (by decide))), fun h => (H4.out (h.resolve_right (by decide))), fun h => ((H5.out (h.resolve_right (by decide)))).below Hq.out, fun h => (((H6.out (h.resolve_right (by decide))).grow Hq.out)).mono fun v hc h' => (HD.out (g8_2 (h'.resolve_right (by decide)))).elim, fun h => (((H7.out (h.resolve_right (by decide))).grow Hq.out)).mono fun v hc h' => hc (h'.resolve_right (by decide)), fun _ => .inl d0, fun _ => .inl d1, fun h => .inl (g5_3 (h.resolve_right (by decide))), fun h => .inl (g5_4 (h.resolve_right (by decide))), fun h => .inl (g8_6 (h.resolve_right (by decide))), fun _ => .inr rfl, fun h => .inl (g9_7 (h.resolve_right (by decide))), fun h => .inl (g9_5 (h.resolve_right (by decide)))⟩
    | 3, hi, hA =>
      obtain rfl := Option.some.inj hi
      clear hi
      clear hA
      obtain ⟨c0, c1, -⟩ := cells2 ((hb.block _ hld).trans Hrd.out)
      have H0 := Lib.hid h0; have H1 := Lib.hid h1; have H2 := Lib.hid h2; have H3 := Lib.hid h3; have H4 := Lib.hid h4; have H5 := Lib.hid h5; have H6 := Lib.hid h6; have H7 := Lib.hid h7; have Hb := Lib.hid hb; have HD := Lib.hid hD; clear hb hD h0 h1 h2 h3 h4 h5 h6 h7
      go_wp2
      rw [HJ.out]
      exact ⟨f, _, _, _, _, _, _, _, _, _, _, _, _, rfl, Hb.out, fun h => (H0.out (h.resolve_right (by decide))), fun h => (H1.out (h.resolve_right (by decide))), fun h => (H2.out (h.resolve_right (by decide))), fun _ => rfl, fun h => (H4.out (h.resolve_right (by decide))), fun h => (H5.out (h.resolve_right (by decide))), fun h => ((H6.out (h.resolve_right (by decide)))).mono fun v hc h' => hc (h'.resolve_right (by decide)), fun h => ((H7.out (h.resolve_right (by decide)))).mono fun v hc h' => hc (h'.resolve_right (by decide)), fun h => .inl (g2_0 (h.resolve_right (by decide))), fun h => .inl (g2_1 (h.resolve_right (by decide))), fun _ => .inr rfl, fun h => .inl (g5_4 (h.resolve_right (by decide))), fun h => .inl (g8_6 (h.resolve_right (by decide))), fun h => .inl (g8_2 (h.resolve_right (by decide))), fun h => .inl (g9_7 (h.resolve_right (by decide))), fun h => .inl (g9_5 (h.resolve_right (by decide)))⟩
    | 4, hi, hA =>
      obtain rfl := Option.some.inj hi
      clear hi
      clear hA
      have H0 := Lib.hid h0; have H1 := Lib.hid h1; have H2 := Lib.hid h2; have H3 := Lib.hid h3; have H4 := Lib.hid h4; have H5 := Lib.hid h5; have H6 := Lib.hid h6; have H7 := Lib.hid h7; have Hb := Lib.hid hb; have HD := Lib.hid hD; clear hb hD h0 h1 h2 h3 h4 h5 h6 h7
      go_wp2
      rw [HJ.out]
      exact ⟨f, _, _, _, _, _, _, _, _, _, _, _, _, rfl, Hb.out, fun h => (H0.out (h.resolve_right (by decide))), fun h => (H1.out (h.resolve_right (by decide))), fun h => (H2.out (h.resolve_right (by decide))), fun h => (H3.out (h.resolve_right (by decide))), fun _ => rfl, fun h => (H5.out (h.resolve_right (by decide))), fun h => ((H6.out (h.resolve_right (by decide)))).mono fun v hc h' => hc (h'.resolve_right (by decide)), fun h => ((H7.out (h.resolve_right (by decide)))).mono fun v hc h' => hc (h'.resolve_right (by decide)), fun h => .inl (g2_0 (h.resolve_right (by decide))), fun h => .inl (g2_1 (h.resolve_right (by decide))), fun h => .inl (g5_3 (h.resolve_right (by decide))), fun _ => .inr rfl, fun h => .inl (g8_6 (h.resolve_right (by decide))), fun h => .inl (g8_2 (h.resolve_right (by decide))), fun h => .inl (g9_7 (h.resolve_right (by decide))), fun h => .inl (g9_5 (h.resolve_right (by decide)))⟩
    | 5, hi, hA =>
      obtain rfl := Option.some.inj hi
      clear hi
      have d3 := after_of hA 3 (by decide +kernel)
      have d4 := after_of hA 4 (by decide +kernel)
      clear hA
      obtain rfl := h3 d3
      obtain rfl := h4 d4
      have hcall := restrict_any _ (l : Int) false ta G w' (Va.out.below hb) RG.out
      have H0 := Lib.hid h0; have H1 := Lib.hid h1; have H2 := Lib.hid h2; have H3 := Lib.hid h3; have H4 := Lib.hid h4; have H5 := Lib.hid h5; have H6 := Lib.hid h6; have H7 := Lib.hid h7; have Hb := Lib.hid hb; have HD := Lib.hid hD; clear hb hD h0 h1 h2 h3 h4 h5 h6 h7
      go_wp2_with (go_at_call 25; refine hcall.mono ?_; rintro e w2 ⟨v2, rfl, q1, q2⟩; have Hq1 := Lib.hid q1; have Hq := Lib.hid q2; clear q1 q2)
      rw [HJ.out]
      exact ⟨fu f w'.heap.size 5, _, _, _, _, _, _, _, _, _, _, _, _, rfl, Hb.out.trans (Hq.out.mono Hb.out.size), fun h => (H0.out (h.resolve_right (by decide))), fun h => (H1.out (h.resolve_right (by decide))), fun h => ((H2.out (h.resolve_right (by decide)))).below Hq.out, fun _ => rfl, fun _ => rfl, fun _ => Hq1.out, fun h => (((H6.out (h.resolve_right (by decide))).grow Hq.out)).mono fun v hc h' => hc (h'.resolve_right (by decide)), fun h => (((H7.out (h.resolve_right (by decide))).grow Hq.out)).mono fun v hc h' => (HD.out (g9_5 (h'.resolve_right (by decide)))).elim, fun h => .inl (g2_0 (h.resolve_right (by decide))), fun h => .inl (g2_1 (h.resolve_right (by decide))), fun _ => .inl d3, fun _ => .inl d4, fun h => .inl (g8_6 (h.resolve_right (by decide))), fun h => .inl (g8_2 (h.resolve_right (by decide))), fun h => .inl (g9_7 (h.resolve_right (by decide))), fun _ => .inr rfl⟩
    | 6, hi, hA =>
      obtain rfl := Option.some.inj hi
      clear hi
      clear hA
      have hst : ¬ D 8 := fun h => hD (g8_6 h)
      have H0 := Lib.hid h0; have H1 := Lib.hid h1; have H2 := Lib.hid h2; have H3 := Lib.hid h3; have H4 := Lib.hid h4; have H5 := Lib.hid h5; have H6 := Lib.hid h6; have H7 := Lib.hid h7; have Hb := Lib.hid hb; have HD := Lib.hid hD; clear hb hD h0 h1 h2 h3 h4 h5 h6 h7; have Hst := Lib.hid hst; clear hst
      go_wp2
      have Hq := Lib.hid ((Below.refl w'.heap.size w').alloc (Nat.le_refl _) (.cells #[.slice none 0 0, .int .i64 0] 24))
      rw [HJ.out]
      exact ⟨fu f w'.heap.size 6, _, _, _, _, _, _, _, _, _, _, _, _, rfl, Hb.out.trans (Hq.out.mono Hb.out.size), fun h => (H0.out (h.resolve_right (by decide))), fun h => (H1.out (h.resolve_right (by decide))), fun h => ((H2.out (h.resolve_right (by decide)))).below Hq.out, fun h => (H3.out (h.resolve_right (by decide))), fun h => (H4.out (h.resolve_right (by decide))), fun h => ((H5.out (h.resolve_right (by decide)))).below Hq.out, fun _ => LC.new _ _ Hb.out.size fun h => (Hst.out (h.resolve_right (by decide))).elim, fun h => (((H7.out (h.resolve_right (by decide))).grow Hq.out)).mono fun v hc h' => hc (h'.resolve_right (by decide)), fun h => .inl (g2_0 (h.resolve_right (by decide))), fun h => .inl (g2_1 (h.resolve_right (by decide))), fun h => .inl (g5_3 (h.resolve_right (by decide))), fun h => .inl (g5_4 (h.resolve_right (by decide))), fun _ => .inr rfl, fun h => .inl (g8_2 (h.resolve_right (by decide))), fun h => .inl (g9_7 (h.resolve_right (by decide))), fun h => .inl (g9_5 (h.resolve_right (by decide)))⟩
    | 7, hi, hA =>
      obtain rfl := Option.some.inj hi
      clear hi
      clear hA
      have hst : ¬ D 9 := fun h => hD (g9_7 h)
      have H0 := Lib.hid h0; have H1 := Lib.hid h1; have H2 := Lib.hid h2; have H3 := Lib.hid h3; have H4 := Lib.hid h4; have H5 := Lib.hid h5; have H6 := Lib.hid h6; have H7 := Lib.hid h7; have Hb := Lib.hid hb; have HD := Lib.hid hD; clear hb hD h0 h1 h2 h3 h4 h5 h6 h7; have Hst := Lib.hid hst; clear hst
      go_wp2
      have Hq := Lib.hid ((Below.refl w'.heap.size w').alloc (Nat.le_refl _) (.cells #[.slice none 0 0, .int .i64 0] 24))
      rw [HJ.out]
      exact ⟨fu f w'.heap.size 7, _, _, _, _, _, _, _, _, _, _, _, _, rfl, Hb.out.trans (Hq.out.mono Hb.out.size), fun h => (H0.out (h.resolve_right (by decide))), fun h => (H1.out (h.resolve_right (by decide))), fun h => ((H2.out (h.resolve_right (by decide)))).below Hq.out, fun h => (H3.out (h.resolve_right (by decide))), fun h => (H4.out (h.resolve_right (by decide))), fun h => ((H5.out (h.resolve_right (by decide)))).below Hq.out, fun h => (((H6.out (h.resolve_right (by decide))).grow Hq.out)).mono fun v hc h' => hc (h'.resolve_right (by decide)), fun _ => LC.new _ _ Hb.out.size fun h => (Hst.out (h.resolve_right (by decide))).elim, fun h => .inl (g2_0 (h.resolve_right (by decide))), fun h => .inl (g2_1 (h.resolve_right (by decide))), fun h => .inl (g5_3 (h.resolve_right (by decide))), fun h => .inl (g5_4 (h.resolve_right (by decide))), fun h => .inl (g8_6 (h.resolve_right (by decide))), fun h => .inl (g8_2 (h.resolve_right (by decide))), fun _ => .inr rfl, fun h => .inl (g9_5 (h.resolve_right (by decide)))⟩
    | 8, hi, hA =>
      obtain rfl := Option.some.inj hi
      clear hi
      have d6 := after_of hA 6 (by decide +kernel)
      have d2 := after_of hA 2 (by decide +kernel)
      clear hA
      obtain ⟨g, x, y, rfl, hg1, hg2, hg3, hg4⟩ := h6 d6
      have hv := h2 d2
      obtain ⟨pq, cq, rfl, -⟩ := id hv.dd.ex
      have H0 := Lib.hid h0; have H1 := Lib.hid h1; have H2 := Lib.hid h2; have H3 := Lib.hid h3; have H4 := Lib.hid h4; have H5 := Lib.hid h5; have H7 := Lib.hid h7; have Hb := Lib.hid hb; have HD := Lib.hid hD; have Hv := Lib.hid hv; have Hg1 := Lib.hid hg1; have Hg2 := Lib.hid hg2; have Hg3 := Lib.hid hg3; clear hb hD hv hg1 hg2 hg3 hg4 h0 h1 h2 h3 h4 h5 h6 h7
      go_wp2_with (with_reducible refine wpList_store_row rfl 24 (.tmp 8) (.tmp 30) rfl _ _ rfl rfl _ _ Hg3.out (by kernel_rfl) (by kernel_rfl) (by kernel_rfl) ?_)
      rw [HJ.out]
      exact ⟨f, _, _, _, _, _, _, _, _, _, _, _, _, rfl, below_setRow Hb.out Hg1.out, fun h => (H0.out (h.resolve_right (by decide))), fun h => (H1.out (h.resolve_right (by decide))), fun _ => Hv.out.setRow Hg3.out, fun h => (H3.out (h.resolve_right (by decide))), fun h => (H4.out (h.resolve_right (by decide))), fun h => ((H5.out (h.resolve_right (by decide)))).setRow Hg3.out, fun _ => ⟨g, _, _, rfl, Hg1.out, Hg2.out, setRow_heap _ _ _ _ _ _ Hg3.out, fun _ => rfl⟩, fun h => (((H7.out (h.resolve_right (by decide))).other (by rw [Hg2.out]; decide) _)).mono fun v hc h' => hc (h'.resolve_right (by decide)), fun h => .inl (g2_0 (h.resolve_right (by decide))), fun h => .inl (g2_1 (h.resolve_right (by decide))), fun h => .inl (g5_3 (h.resolve_right (by decide))), fun h => .inl (g5_4 (h.resolve_right (by decide))), fun _ => .inl d6, fun _ => .inl d2, fun h => .inl (g9_7 (h.resolve_right (by decide))), fun h => .inl (g9_5 (h.resolve_right (by decide)))⟩
    | 9, hi, hA =>
      obtain rfl := Option.some.inj hi
      clear hi
      have d7 := after_of hA 7 (by decide +kernel)
      have d5 := after_of hA 5 (by decide +kernel)
      clear hA
      obtain ⟨g, x, y, rfl, hg1, hg2, hg3, hg4⟩ := h7 d7
      have hv := h5 d5
      obtain ⟨pq, cq, rfl, -⟩ := id hv.dd.ex
      have H0 := Lib.hid h0; have H1 := Lib.hid h1; have H2 := Lib.hid h2; have H3 := Lib.hid h3; have H4 := Lib.hid h4; have H5 := Lib.hid h5; have H6 := Lib.hid h6; have Hb := Lib.hid hb; have HD := Lib.hid hD; have Hv := Lib.hid hv; have Hg1 := Lib.hid hg1; have Hg2 := Lib.hid hg2; have Hg3 := Lib.hid hg3; clear hb hD hv hg1 hg2 hg3 hg4 h0 h1 h2 h3 h4 h5 h6 h7
      go_wp2_with (with_reducible refine wpList_store_row rfl 24 (.tmp 9) (.tmp 33) rfl _ _ rfl rfl _ _ Hg3.out (by kernel_rfl) (by kernel_rfl) (by kernel_rfl) ?_)
      rw [HJ.out]
      exact ⟨f, _, _, _, _, _, _, _, _, _, _, _, _, rfl, below_setRow Hb.out Hg1.out, fun h => (H0.out (h.resolve_right (by decide))), fun h => (H1.out (h.resolve_right (by decide))), fun h => ((H2.out (h.resolve_right (by decide)))).setRow Hg3.out, fun h => (H3.out (h.resolve_right (by decide))), fun h => (H4.out (h.resolve_right (by decide))), fun _ => Hv.out.setRow Hg3.out, fun h => (((H6.out (h.resolve_right (by decide))).other (by rw [Hg2.out]; decide) _)).mono fun v hc h' => hc (h'.resolve_right (by decide)), fun _ => ⟨g, _, _, rfl, Hg1.out, Hg2.out, setRow_heap _ _ _ _ _ _ Hg3.out, fun _ => rfl⟩, fun h => .inl (g2_0 (h.resolve_right (by decide))), fun h => .inl (g2_1 (h.resolve_right (by decide))), fun h => .inl (g5_3 (h.resolve_right (by decide))), fun h => .inl (g5_4 (h.resolve_right (by decide))), fun h => .inl (g8_6 (h.resolve_right (by decide))), fun h => .inl (g8_2 (h.resolve_right (by decide))), fun _ => .inl d7, fun _ => .inl d5⟩
    | n + 10, hi, hA => cases hi
  · intro D ac w' hall hJ
    rw [HJ.out] at hJ
    obtain ⟨f, s28, s29, s30, s31, s32, s33, s8, s9, s24, s25, s26, s27, rfl, hb, h0, h1, h2, h3, h4, h5, h6, h7, g2_0, g2_1, g5_3, g5_4, g8_6, g8_2, g9_7, g9_5⟩ := hJ
    have hd : ∀ i, i < 10 → D i := hall
    clear hall
    obtain ⟨gh, xh, yh, rfl, hf1, hf2, hf3, hf4⟩ := h6 (hd 6 (by decide))
    obtain ⟨gg, xg, yg, rfl, hf5, hf6, hf7, hf8⟩ := h7 (hd 7 (by decide))
    have hx1 := hf4 (hd 8 (by decide))
    have hx2 := hf8 (hd 9 (by decide))
    have hvh := h2 (hd 2 (by decide))
    have hvg := h5 (hd 5 (by decide))
    obtain rfl := h0 (hd 0 (by decide))
    obtain rfl := h1 (hd 1 (by decide))
    obtain rfl := h3 (hd 3 (by decide))
    obtain rfl := h4 (hd 4 (by decide))
    subst hx1 hx2
    have Vh0 := Lib.hid hvh; have Vg0 := Lib.hid hvg; have Hrh0 := Lib.hid hf3; have Hrg0 := Lib.hid hf7
    have B5 := Lib.hid (B2.out.step hb)
    have Va5 := Lib.hid (Va.out.below hb)
    have Hrd5 := Lib.hid ((hb.block _ hld).trans Hrd.out)
    clear HJ J hd h0 h1 h2 h3 h4 h5 h6 h7 hb hf1 hf2 hf3 hf4 hf5 hf6 hf7 hf8 hvh hvg Hrd Va B2 hld
    have hK : ∀ {K : Act → World → Prop} {Q : Exit → Act → World → Prop} {a : Act} {w : World}, K a w → Exit.then K Q .normal a w := fun h => h
    refine hK ?_
    generalize w' = w5 at *
    have Hlit := Lib.hid (literal_any l hl12 w5)
    go_upto_region 7 with (go_at_call 26; refine Hlit.out.mono ?_; rintro e wl ⟨vl, rfl, dl, bl⟩; obtain ⟨po, no, co, ro, rfl⟩ := (show ∃ p n c r, vl = .agg #[.slice p n c, .int .i64 r] from by (obtain ⟨p, c, e, -⟩ := dl.dd.ex; exact ⟨_, _, _, _, e⟩)); have Dl := Lib.hid dl; have Bl := Lib.hid bl; clear dl bl)
    have bO : Below wl.heap.size wl (wl.alloc (.cells #[.slice po no co, .int .i64 ro] 24)) := (Below.refl _ _).alloc (Nat.le_refl _) _
    have hro := heap_alloc_new wl (.cells #[.slice po no co, .int .i64 ro] 24)
    have hb6 := Bl.out.step bO
    have Vo := Lib.hid (Dl.out.below bO); have Hro := Lib.hid hro
    have Vh := Lib.hid (Vh0.out.below hb6); have Vg := Lib.hid (Vg0.out.below hb6); have Va6 := Lib.hid (Va5.out.below hb6)
    have Hrh := Lib.hid ((hb6.block _ (heap_lt Hrh0.out)).trans Hrh0.out); have Hrg := Lib.hid ((hb6.block _ (heap_lt Hrg0.out)).trans Hrg0.out); have Hrd6 := Lib.hid ((hb6.block _ (heap_lt Hrd5.out)).trans Hrd5.out)
    have B6 := Lib.hid (B5.out.step hb6)
    clear bO hro hb6 Dl Bl Vh0 Vg0 Va5 Hrh0 Hrg0 Hrd5 B5 Hlit
    generalize wl.alloc (.cells #[.slice po no co, .int .i64 ro] 24) = wc at *
    have hlo := heap_lt Hro.out; have hlh := heap_lt Hrh.out; have hlg := heap_lt Hrg.out
    obtain ⟨J, hJd⟩ : ∃ J : (Nat → Prop) → Act → World → Prop, J = fun (D : Nat → Prop) (ac : Act) (w' : World) => ∃ (f : Nat → Nat) (s39 s40 s41 s42 s43 s44 s45 s46 s12 s24 s25 s26 s27 s28 s29 s30 s31 s32 s33 : Value), ac = ⟨((.slice P1 n1 c1) :: (.int .i64 x) :: undef :: undef :: (.bool false) :: (.pointer (some ⟨w1.heap.size, 0, none⟩)) :: (.bool true) :: (.int .i64 (l : Int)) :: (.pointer (some ⟨gh, 0, none⟩)) :: (.pointer (some ⟨gg, 0, none⟩)) :: (.pointer (some ⟨wl.heap.size, 0, none⟩)) :: (.int .i64 0) :: s12 :: undef :: undef :: undef :: (.tuple #[(.agg #[.slice p1 m1 k1, .int .i64 r1]), .bool true]) :: (.slice P1 n1 c1) :: (.tuple #[(.agg #[.slice p1 m1 k1, .int .i64 r1]), .bool true]) :: (.agg #[.slice p1 m1 k1, .int .i64 r1]) :: (.bool true) :: (.bool true) :: (.bool false) :: undef :: s24 :: s25 :: s26 :: s27 :: s28 :: s29 :: s30 :: s31 :: s32 :: s33 :: (.tuple #[.agg #[.slice po no co, .int .i64 ro], .int .i64 0]) :: (.int .i64 (l : Int)) :: (.tuple #[.agg #[.slice po no co, .int .i64 ro], .int .i64 0]) :: (.agg #[.slice po no co, .int .i64 ro]) :: (.int .i64 0) :: s39 :: s40 :: s41 :: s42 :: s43 :: s44 :: s45 :: s46 :: undef :: undef :: undef :: undef :: undef :: undef :: undef :: undef :: undef :: undef :: undef :: undef :: undef :: undef :: undef :: undef :: undef :: undef :: undef :: undef :: undef :: undef :: undef :: undef :: undef :: undef :: undef :: undef :: undef :: undef :: undef :: undef :: undef :: undef :: undef :: undef :: undef :: undef :: undef :: undef :: undef :: undef :: undef :: undef :: undef :: undef :: undef :: undef :: undef :: undef :: undef :: undef :: undef :: undef :: undef :: undef :: undef :: undef :: undef :: undef :: undef :: undef :: []).toArray, []⟩ ∧ Below wc.heap.size wc w' ∧ (D 0 → s39 = (.agg #[.slice po no co, .int .i64 ro])) ∧ (D 1 → s40 = (.agg #[xh, yh])) ∧ (D 2 → DV w' s41 A1) ∧ (D 3 → s42 = (.agg #[.slice po no co, .int .i64 ro])) ∧ (D 4 → DV w' s43 NO) ∧ (D 5 → s44 = (.agg #[xg, yg])) ∧ (D 6 → DV w' s45 A2) ∧ (D 7 → DV w' s46 ta) ∧ (D 8 → LC f wc.heap.size 8 w' s12 fun v => D 9 → v = s46) ∧ (D 2 → D 0) ∧ (D 2 → D 1) ∧ (D 4 → D 3) ∧ (D 6 → D 4) ∧ (D 6 → D 5) ∧ (D 7 → D 2) ∧ (D 7 → D 6) ∧ (D 9 → D 8) ∧ (D 9 → D 7) := ⟨_, rfl⟩
    have HJ := Lib.hid hJd; clear hJd
    refine Inv.wp_region_inv J (by kernel_rfl) (by decide +kernel) ?_ ?_ ?_
    · rw [HJ.out]
      exact ⟨fun _ => 0, _, _, _, _, _, _, _, _, _, _, _, _, _, _, _, _, _, _, _, rfl, (Below.refl _ _).drew, fun h => h.elim, fun h => h.elim, fun h => h.elim, fun h => h.elim, fun h => h.elim, fun h => h.elim, fun h => h.elim, fun h => h.elim, fun h => h.elim, fun h => h.elim, fun h => h.elim, fun h => h.elim, fun h => h.elim, fun h => h.elim, fun h => h.elim, fun h => h.elim, fun h => h.elim, fun h => h.elim⟩
    · intro i op hi D ac w' hD hA hJ
      rw [HJ.out] at hJ
      obtain ⟨f, s39, s40, s41, s42, s43, s44, s45, s46, s12, s24, s25, s26, s27, s28, s29, s30, s31, s32, s33, rfl, hb, h0, h1, h2, h3, h4, h5, h6, h7, h8, g2_0, g2_1, g4_3, g6_4, g6_5, g7_2, g7_6, g9_8, g9_7⟩ := hJ
      match i, hi, hA with
      | 0, hi, hA =>
        obtain rfl := Option.some.inj hi
        clear hi
        clear hA
        obtain ⟨c0, c1, -⟩ := cells2 ((hb.block _ hlo).trans Hro.out)
        have H0 := Lib.hid h0; have H1 := Lib.hid h1; have H2 := Lib.hid h2; have H3 := Lib.hid h3; have H4 := Lib.hid h4; have H5 := Lib.hid h5; have H6 := Lib.hid h6; have H7 := Lib.hid h7; have H8 := Lib.hid h8; have Hb := Lib.hid hb; have HD := Lib.hid hD; clear hb hD h0 h1 h2 h3 h4 h5 h6 h7 h8
        go_wp2
        rw [HJ.out]
        exact ⟨f, _, _, _, _, _, _, _, _, _, _, _, _, _, _, _, _, _, _, _, rfl, Hb.out, fun _ => rfl, fun h => (H1.out (h.resolve_right (by decide))), fun h => (H2.out (h.resolve_right (by decide))), fun h => (H3.out (h.resolve_right (by decide))), fun h => (H4.out (h.resolve_right (by decide))), fun h => (H5.out (h.resolve_right (by decide))), fun h => (H6.out (h.resolve_right (by decide))), fun h => (H7.out (h.resolve_right (by decide))), fun h => ((H8.out (h.resolve_right (by decide)))).mono fun v hc h' => hc (h'.resolve_right (by decide)), fun _ => .inr rfl, fun h => .inl (g2_1 (h.resolve_right (by decide))), fun h => .inl (g4_3 (h.resolve_right (by decide))), fun h => .inl (g6_4 (h.resolve_right (by decide))), fun h => .inl (g6_5 (h.resolve_right (by decide))), fun h => .inl (g7_2 (h.resolve_right (by decide))), fun h => .inl (g7_6 (h.resolve_right (by decide))), fun h => .inl (g9_8 (h.resolve_right (by decide))), fun h => .inl (g9_7 (h.resolve_right (by decide)))⟩
      | 1, hi, hA =>
        obtain rfl := Option.some.inj hi
        clear hi
        clear hA
        obtain ⟨c0, c1, -⟩ := cells2 ((hb.block _ hlh).trans Hrh.out)
        have H0 := Lib.hid h0; have H1 := Lib.hid h1; have H2 := Lib.hid h2; have H3 := Lib.hid h3; have H4 := Lib.hid h4; have H5 := Lib.hid h5; have H6 := Lib.hid h6; have H7 := Lib.hid h7; have H8 := Lib.hid h8; have Hb := Lib.hid hb; have HD := Lib.hid hD; clear hb hD h0 h1 h2 h3 h4 h5 h6 h7 h8
        go_wp2
        rw [HJ.out]
        exact ⟨f, _, _, _, _, _, _, _, _, _, _, _, _, _, _, _, _, _, _, _, rfl, Hb.out, fun h => (H0.out (h.resolve_right (by decide))), fun _ => rfl, fun h => (H2.out (h.resolve_right (by decide))), fun h => (H3.out (h.resolve_right (by decide))), fun h => (H4.out (h.resolve_right (by decide))), fun h => (H5.out (h.resolve_right (by decide))), fun h => (H6.out (h.resolve_right (by decide))), fun h => (H7.out (h.resolve_right (by decide))), fun h => ((H8.out (h.resolve_right (by decide)))).mono fun v hc h' => hc (h'.resolve_right (by decide)), fun h => .inl (g2_0 (h.resolve_right (by decide))), fun _ => .inr rfl, fun h => .inl (g4_3 (h.resolve_right (by decide))), fun h => .inl (g6_4 (h.resolve_right (by decide))), fun h => .inl (g6_5 (h.resolve_right (by decide))), fun h => .inl (g7_2 (h.resolve_right (by decide))), fun h => .inl (g7_6 (h.resolve_right (by decide))), fun h => .inl (g9_8 (h.resolve_right (by decide))), fun h => .inl (g9_7 (h.resolve_right (by decide)))⟩
      | 2, hi, hA =>
        obtain rfl := Option.some.inj hi
        clear hi
        have d0 := after_of hA 0 (by decide +kernel)
        have d1 := after_of hA 1 (by decide +kernel)
        clear hA
        obtain rfl := h0 d0
        obtain rfl := h1 d1
        have hcall := andD_any _ _ (litT l) H A1 w' (Vo.out.below hb) (Vh.out.below hb) oA1 eA1.out
        have H0 := Lib.hid h0; have H1 := Lib.hid h1; have H2 := Lib.hid h2; have H3 := Lib.hid h3; have H4 := Lib.hid h4; have H5 := Lib.hid h5; have H6 := Lib.hid h6; have H7 := Lib.hid h7; have H8 := Lib.hid h8; have Hb := Lib.hid hb; have HD := Lib.hid hD; clear hb hD h0 h1 h2 h3 h4 h5 h6 h7 h8
        go_wp2_with (go_at_call 13; refine hcall.mono ?_; rintro e w2 ⟨v2, rfl, q1, q2⟩; have Hq1 := Lib.hid q1; have Hq := Lib.hid q2; clear q1 q2)
        rw [HJ.out]
        exact ⟨fu f w'.heap.size 2, _, _, _, _, _, _, _, _, _, _, _, _, _, _, _, _, _, _, _, rfl, Hb.out.trans (Hq.out.mono Hb.out.size), fun _ => rfl, fun _ => rfl, fun _ => Hq1.out, fun h => (H3.out (h.resolve_right (by decide))), fun h => ((H4.out (h.resolve_right (by decide)))).below Hq.out, fun h => (H5.out (h.resolve_right (by decide))), fun h => ((H6.out (h.resolve_right (by decide)))).below Hq.out, fun h => ((H7.out (h.resolve_right (by decide)))).below Hq.out, fun h => (((H8.out (h.resolve_right (by decide))).grow Hq.out)).mono fun v hc h' => hc (h'.resolve_right (by decide)), fun _ => .inl d0, fun _ => .inl d1, fun h => .inl (g4_3 (h.resolve_right (by decide))), fun h => .inl (g6_4 (h.resolve_right (by decide))), fun h => .inl (g6_5 (h.resolve_right (by decide))), fun _ => .inr rfl, fun h => .inl (g7_6 (h.resolve_right (by decide))), fun h => .inl (g9_8 (h.resolve_right (by decide))), fun h => .inl (g9_7 (h.resolve_right (by decide)))⟩
      | 3, hi, hA =>
        obtain rfl := Option.some.inj hi
        clear hi
        clear hA
        obtain ⟨c0, c1, -⟩ := cells2 ((hb.block _ hlo).trans Hro.out)
        have H0 := Lib.hid h0; have H1 := Lib.hid h1; have H2 := Lib.hid h2; have H3 := Lib.hid h3; have H4 := Lib.hid h4; have H5 := Lib.hid h5; have H6 := Lib.hid h6; have H7 := Lib.hid h7; have H8 := Lib.hid h8; have Hb := Lib.hid hb; have HD := Lib.hid hD; clear hb hD h0 h1 h2 h3 h4 h5 h6 h7 h8
        go_wp2
        rw [HJ.out]
        exact ⟨f, _, _, _, _, _, _, _, _, _, _, _, _, _, _, _, _, _, _, _, rfl, Hb.out, fun h => (H0.out (h.resolve_right (by decide))), fun h => (H1.out (h.resolve_right (by decide))), fun h => (H2.out (h.resolve_right (by decide))), fun _ => rfl, fun h => (H4.out (h.resolve_right (by decide))), fun h => (H5.out (h.resolve_right (by decide))), fun h => (H6.out (h.resolve_right (by decide))), fun h => (H7.out (h.resolve_right (by decide))), fun h => ((H8.out (h.resolve_right (by decide)))).mono fun v hc h' => hc (h'.resolve_right (by decide)), fun h => .inl (g2_0 (h.resolve_right (by decide))), fun h => .inl (g2_1 (h.resolve_right (by decide))), fun _ => .inr rfl, fun h => .inl (g6_4 (h.resolve_right (by decide))), fun h => .inl (g6_5 (h.resolve_right (by decide))), fun h => .inl (g7_2 (h.resolve_right (by decide))), fun h => .inl (g7_6 (h.resolve_right (by decide))), fun h => .inl (g9_8 (h.resolve_right (by decide))), fun h => .inl (g9_7 (h.resolve_right (by decide)))⟩
      | 4, hi, hA =>
        obtain rfl := Option.some.inj hi
        clear hi
        have d3 := after_of hA 3 (by decide +kernel)
        clear hA
        obtain rfl := h3 d3
        have hcall := notD_any _ (litT l) NO w' (Vo.out.below hb) oNO eNO.out
        have H0 := Lib.hid h0; have H1 := Lib.hid h1; have H2 := Lib.hid h2; have H3 := Lib.hid h3; have H4 := Lib.hid h4; have H5 := Lib.hid h5; have H6 := Lib.hid h6; have H7 := Lib.hid h7; have H8 := Lib.hid h8; have Hb := Lib.hid hb; have HD := Lib.hid hD; clear hb hD h0 h1 h2 h3 h4 h5 h6 h7 h8
        go_wp2_with (go_at_call 16; refine hcall.mono ?_; rintro e w2 ⟨v2, rfl, q1, q2⟩; have Hq1 := Lib.hid q1; have Hq := Lib.hid q2; clear q1 q2)
        rw [HJ.out]
        exact ⟨fu f w'.heap.size 4, _, _, _, _, _, _, _, _, _, _, _, _, _, _, _, _, _, _, _, rfl, Hb.out.trans (Hq.out.mono Hb.out.size), fun h => (H0.out (h.resolve_right (by decide))), fun h => (H1.out (h.resolve_right (by decide))), fun h => ((H2.out (h.resolve_right (by decide)))).below Hq.out, fun _ => rfl, fun _ => Hq1.out, fun h => (H5.out (h.resolve_right (by decide))), fun h => ((H6.out (h.resolve_right (by decide)))).below Hq.out, fun h => ((H7.out (h.resolve_right (by decide)))).below Hq.out, fun h => (((H8.out (h.resolve_right (by decide))).grow Hq.out)).mono fun v hc h' => hc (h'.resolve_right (by decide)), fun h => .inl (g2_0 (h.resolve_right (by decide))), fun h => .inl (g2_1 (h.resolve_right (by decide))), fun _ => .inl d3, fun _ => .inr rfl, fun h => .inl (g6_5 (h.resolve_right (by decide))), fun h => .inl (g7_2 (h.resolve_right (by decide))), fun h => .inl (g7_6 (h.resolve_right (by decide))), fun h => .inl (g9_8 (h.resolve_right (by decide))), fun h => .inl (g9_7 (h.resolve_right (by decide)))⟩
      | 5, hi, hA =>
        obtain rfl := Option.some.inj hi
        clear hi
        clear hA
        obtain ⟨c0, c1, -⟩ := cells2 ((hb.block _ hlg).trans Hrg.out)
        have H0 := Lib.hid h0; have H1 := Lib.hid h1; have H2 := Lib.hid h2; have H3 := Lib.hid h3; have H4 := Lib.hid h4; have H5 := Lib.hid h5; have H6 := Lib.hid h6; have H7 := Lib.hid h7; have H8 := Lib.hid h8; have Hb := Lib.hid hb; have HD := Lib.hid hD; clear hb hD h0 h1 h2 h3 h4 h5 h6 h7 h8
        go_wp2
        rw [HJ.out]
        exact ⟨f, _, _, _, _, _, _, _, _, _, _, _, _, _, _, _, _, _, _, _, rfl, Hb.out, fun h => (H0.out (h.resolve_right (by decide))), fun h => (H1.out (h.resolve_right (by decide))), fun h => (H2.out (h.resolve_right (by decide))), fun h => (H3.out (h.resolve_right (by decide))), fun h => (H4.out (h.resolve_right (by decide))), fun _ => rfl, fun h => (H6.out (h.resolve_right (by decide))), fun h => (H7.out (h.resolve_right (by decide))), fun h => ((H8.out (h.resolve_right (by decide)))).mono fun v hc h' => hc (h'.resolve_right (by decide)), fun h => .inl (g2_0 (h.resolve_right (by decide))), fun h => .inl (g2_1 (h.resolve_right (by decide))), fun h => .inl (g4_3 (h.resolve_right (by decide))), fun h => .inl (g6_4 (h.resolve_right (by decide))), fun _ => .inr rfl, fun h => .inl (g7_2 (h.resolve_right (by decide))), fun h => .inl (g7_6 (h.resolve_right (by decide))), fun h => .inl (g9_8 (h.resolve_right (by decide))), fun h => .inl (g9_7 (h.resolve_right (by decide)))⟩
      | 6, hi, hA =>
        obtain rfl := Option.some.inj hi
        clear hi
        have d4 := after_of hA 4 (by decide +kernel)
        have d5 := after_of hA 5 (by decide +kernel)
        clear hA
        obtain rfl := h5 d5
        have hcall := andD_any _ _ NO G A2 w' (h4 d4) (Vg.out.below hb) oA2 eA2.out
        have H0 := Lib.hid h0; have H1 := Lib.hid h1; have H2 := Lib.hid h2; have H3 := Lib.hid h3; have H4 := Lib.hid h4; have H5 := Lib.hid h5; have H6 := Lib.hid h6; have H7 := Lib.hid h7; have H8 := Lib.hid h8; have Hb := Lib.hid hb; have HD := Lib.hid hD; clear hb hD h0 h1 h2 h3 h4 h5 h6 h7 h8
        go_wp2_with (go_at_call 13; refine hcall.mono ?_; rintro e w2 ⟨v2, rfl, q1, q2⟩; have Hq1 := Lib.hid q1; have Hq := Lib.hid q2; clear q1 q2)
        rw [HJ.out]
        exact ⟨fu f w'.heap.size 6, _, _, _, _, _, _, _, _, _, _, _, _, _, _, _, _, _, _, _, rfl, Hb.out.trans (Hq.out.mono Hb.out.size), fun h => (H0.out (h.resolve_right (by decide))), fun h => (H1.out (h.resolve_right (by decide))), fun h => ((H2.out (h.resolve_right (by decide)))).below Hq.out, fun h => (H3.out (h.resolve_right (by decide))), fun h => ((H4.out (h.resolve_right (by decide)))).below Hq.out, fun _ => rfl, fun _ => Hq1.out, fun h => ((H7.out (h.resolve_right (by decide)))).below Hq.out, fun h => (((H8.out (h.resolve_right (by decide))).grow Hq.out)).mono fun v hc h' => hc (h'.resolve_right (by decide)), fun h => .inl (g2_0 (h.resolve_right (by decide))), fun h => .inl (g2_1 (h.resolve_right (by decide))), fun h => .inl (g4_3 (h.resolve_right (by decide))), fun _ => .inl d4, fun _ => .inl d5, fun h => .inl (g7_2 (h.resolve_right (by decide))), fun _ => .inr rfl, fun h => .inl (g9_8 (h.resolve_right (by decide))), fun h => .inl (g9_7 (h.resolve_right (by decide)))⟩
      | 7, hi, hA =>
        obtain rfl := Option.some.inj hi
        clear hi
        have d2 := after_of hA 2 (by decide +kernel)
        have d6 := after_of hA 6 (by decide +kernel)
        clear hA
        have hcall := orD_any _ _ A1 A2 ta w' (h2 d2) (h6 d6) oa eta.out
        have H0 := Lib.hid h0; have H1 := Lib.hid h1; have H2 := Lib.hid h2; have H3 := Lib.hid h3; have H4 := Lib.hid h4; have H5 := Lib.hid h5; have H6 := Lib.hid h6; have H7 := Lib.hid h7; have H8 := Lib.hid h8; have Hb := Lib.hid hb; have HD := Lib.hid hD; clear hb hD h0 h1 h2 h3 h4 h5 h6 h7 h8
        go_wp2_with (go_at_call 14; refine hcall.mono ?_; rintro e w2 ⟨v2, rfl, q1, q2⟩; have Hq1 := Lib.hid q1; have Hq := Lib.hid q2; clear q1 q2)
        rw [HJ.out]
        exact ⟨fu f w'.heap.size 7, _, _, _, _, _, _, _, _, _, _, _, _, _, _, _, _, _, _, _, rfl, Hb.out.trans (Hq.out.mono Hb.out.size), fun h => (H0.out (h.resolve_right (by decide))), fun h => (H1.out (h.resolve_right (by decide))), fun h => ((H2.out (h.resolve_right (by decide)))).below Hq.out, fun h => (H3.out (h.resolve_right (by decide))), fun h => ((H4.out (h.resolve_right (by decide)))).below Hq.out, fun h => (H5.out (h.resolve_right (by decide))), fun h => ((H6.out (h.resolve_right (by decide)))).below Hq.out, fun _ => Hq1.out, fun h => (((H8.out (h.resolve_right (by decide))).grow Hq.out)).mono fun v hc h' => (HD.out (g9_7 (h'.resolve_right (by decide)))).elim, fun h => .inl (g2_0 (h.resolve_right (by decide))), fun h => .inl (g2_1 (h.resolve_right (by decide))), fun h => .inl (g4_3 (h.resolve_right (by decide))), fun h => .inl (g6_4 (h.resolve_right (by decide))), fun h => .inl (g6_5 (h.resolve_right (by decide))), fun _ => .inl d2, fun _ => .inl d6, fun h => .inl (g9_8 (h.resolve_right (by decide))), fun _ => .inr rfl⟩
      | 8, hi, hA =>
        obtain rfl := Option.some.inj hi
        clear hi
        clear hA
        have hst : ¬ D 9 := fun h => hD (g9_8 h)
        have H0 := Lib.hid h0; have H1 := Lib.hid h1; have H2 := Lib.hid h2; have H3 := Lib.hid h3; have H4 := Lib.hid h4; have H5 := Lib.hid h5; have H6 := Lib.hid h6; have H7 := Lib.hid h7; have H8 := Lib.hid h8; have Hb := Lib.hid hb; have HD := Lib.hid hD; clear hb hD h0 h1 h2 h3 h4 h5 h6 h7 h8; have Hst := Lib.hid hst; clear hst
        go_wp2
        have Hq := Lib.hid ((Below.refl w'.heap.size w').alloc (Nat.le_refl _) (.cells #[.slice none 0 0, .int .i64 0] 24))
        rw [HJ.out]
        exact ⟨fu f w'.heap.size 8, _, _, _, _, _, _, _, _, _, _, _, _, _, _, _, _, _, _, _, rfl, Hb.out.trans (Hq.out.mono Hb.out.size), fun h => (H0.out (h.resolve_right (by decide))), fun h => (H1.out (h.resolve_right (by decide))), fun h => ((H2.out (h.resolve_right (by decide)))).below Hq.out, fun h => (H3.out (h.resolve_right (by decide))), fun h => ((H4.out (h.resolve_right (by decide)))).below Hq.out, fun h => (H5.out (h.resolve_right (by decide))), fun h => ((H6.out (h.resolve_right (by decide)))).below Hq.out, fun h => ((H7.out (h.resolve_right (by decide)))).below Hq.out, fun _ => LC.new _ _ Hb.out.size fun h => (Hst.out (h.resolve_right (by decide))).elim, fun h => .inl (g2_0 (h.resolve_right (by decide))), fun h => .inl (g2_1 (h.resolve_right (by decide))), fun h => .inl (g4_3 (h.resolve_right (by decide))), fun h => .inl (g6_4 (h.resolve_right (by decide))), fun h => .inl (g6_5 (h.resolve_right (by decide))), fun h => .inl (g7_2 (h.resolve_right (by decide))), fun h => .inl (g7_6 (h.resolve_right (by decide))), fun _ => .inr rfl, fun h => .inl (g9_7 (h.resolve_right (by decide)))⟩
      | 9, hi, hA =>
        obtain rfl := Option.some.inj hi
        clear hi
        have d8 := after_of hA 8 (by decide +kernel)
        have d7 := after_of hA 7 (by decide +kernel)
        clear hA
        obtain ⟨g, x, y, rfl, hg1, hg2, hg3, hg4⟩ := h8 d8
        have hv := h7 d7
        obtain ⟨pq, cq, rfl, -⟩ := id hv.dd.ex
        have H0 := Lib.hid h0; have H1 := Lib.hid h1; have H2 := Lib.hid h2; have H3 := Lib.hid h3; have H4 := Lib.hid h4; have H5 := Lib.hid h5; have H6 := Lib.hid h6; have H7 := Lib.hid h7; have Hb := Lib.hid hb; have HD := Lib.hid hD; have Hv := Lib.hid hv; have Hg1 := Lib.hid hg1; have Hg2 := Lib.hid hg2; have Hg3 := Lib.hid hg3; clear hb hD hv hg1 hg2 hg3 hg4 h0 h1 h2 h3 h4 h5 h6 h7 h8
        go_wp2_with (with_reducible refine wpList_store_row rfl 24 (.tmp 12) (.tmp 46) rfl _ _ rfl rfl _ _ Hg3.out (by kernel_rfl) (by kernel_rfl) (by kernel_rfl) ?_)
        rw [HJ.out]
        exact ⟨f, _, _, _, _, _, _, _, _, _, _, _, _, _, _, _, _, _, _, _, rfl, below_setRow Hb.out Hg1.out, fun h => (H0.out (h.resolve_right (by decide))), fun h => (H1.out (h.resolve_right (by decide))), fun h => ((H2.out (h.resolve_right (by decide)))).setRow Hg3.out, fun h => (H3.out (h.resolve_right (by decide))), fun h => ((H4.out (h.resolve_right (by decide)))).setRow Hg3.out, fun h => (H5.out (h.resolve_right (by decide))), fun h => ((H6.out (h.resolve_right (by decide)))).setRow Hg3.out, fun _ => Hv.out.setRow Hg3.out, fun _ => ⟨g, _, _, rfl, Hg1.out, Hg2.out, setRow_heap _ _ _ _ _ _ Hg3.out, fun _ => rfl⟩, fun h => .inl (g2_0 (h.resolve_right (by decide))), fun h => .inl (g2_1 (h.resolve_right (by decide))), fun h => .inl (g4_3 (h.resolve_right (by decide))), fun h => .inl (g6_4 (h.resolve_right (by decide))), fun h => .inl (g6_5 (h.resolve_right (by decide))), fun h => .inl (g7_2 (h.resolve_right (by decide))), fun h => .inl (g7_6 (h.resolve_right (by decide))), fun _ => .inl d8, fun _ => .inl d7⟩
      | n + 10, hi, hA => cases hi
    · intro D ac w' hall hJ
      rw [HJ.out] at hJ
      obtain ⟨f, s39, s40, s41, s42, s43, s44, s45, s46, s12, s24, s25, s26, s27, s28, s29, s30, s31, s32, s33, rfl, hb, h0, h1, h2, h3, h4, h5, h6, h7, h8, g2_0, g2_1, g4_3, g6_4, g6_5, g7_2, g7_6, g9_8, g9_7⟩ := hJ
      have hd : ∀ i, i < 10 → D i := hall
      clear hall
      obtain ⟨gj, xj, yj, rfl, hf1, hf2, hf3, hf4⟩ := h8 (hd 8 (by decide))
      have hx1 := hf4 (hd 9 (by decide))
      have hvj := h7 (hd 7 (by decide))
      obtain rfl := h0 (hd 0 (by decide))
      obtain rfl := h1 (hd 1 (by decide))
      obtain rfl := h3 (hd 3 (by decide))
      obtain rfl := h5 (hd 5 (by decide))
      subst hx1
      have Vj0 := Lib.hid hvj; have Hrj0 := Lib.hid hf3
      have B7 := Lib.hid (B6.out.step hb)
      have Vd0 := Lib.hid (Va6.out.below hb); have Vh1 := Lib.hid (Vh.out.below hb); have Vg1 := Lib.hid (Vg.out.below hb)
      have Hrd0 := Lib.hid ((hb.block _ (heap_lt Hrd6.out)).trans Hrd6.out); have Hrh1 := Lib.hid ((hb.block _ hlh).trans Hrh.out); have Hrg1 := Lib.hid ((hb.block _ hlg).trans Hrg.out)
      clear HJ J hd h0 h1 h2 h3 h4 h5 h6 h7 h8 hb hf1 hf2 hf3 hf4 hvj Va6 Vh Vg Vo Hrd6 Hrh Hrg Hro B6 hlo hlh hlg
      refine hK ?_
      generalize w' = w7 at *
      have Hsup := Lib.hid (support_any _ ta w7 Vd0.out)
      obtain ⟨z0, z1, -⟩ := cells2 Hrd0.out
      go_wp2_with (go_at_call 27; refine Hsup.out.mono ?_; rintro e ws ⟨vs, xs, rfl, his, hasc, hmem, hxl, qs⟩; obtain ⟨px, cx, rfl, hcx, hrx⟩ := his; have Hrx := Lib.hid hrx; have Hasc := Lib.hid hasc; have Hmem := Lib.hid hmem; have Qs := Lib.hid qs; clear hrx hasc hmem qs)
      have Bs := Lib.hid (B7.out.step Qs.out)
      have Vj := Lib.hid (Vj0.out.below Qs.out); have Vd := Lib.hid (Vd0.out.below Qs.out); have Vh2 := Lib.hid (Vh1.out.below Qs.out); have Vg2 := Lib.hid (Vg1.out.below Qs.out)
      have Hrj := Lib.hid ((Qs.out.block _ (heap_lt Hrj0.out)).trans Hrj0.out); have Hrd2 := Lib.hid ((Qs.out.block _ (heap_lt Hrd0.out)).trans Hrd0.out); have Hrh2 := Lib.hid ((Qs.out.block _ (heap_lt Hrh1.out)).trans Hrh1.out); have Hrg2 := Lib.hid ((Qs.out.block _ (heap_lt Hrg1.out)).trans Hrg1.out)
      clear z0 z1 Hsup Vj0 Vd0 Vh1 Vg1 Hrj0 Hrd0 Hrh1 Hrg1 B7 Qs
      go_loopw [15, 13] (fun i m wr => ∃ k : Nat, i = .int .i64 k ∧ k ≤ xs.length ∧ m = .bool (decide ((l : Int) ∈ xs.take k)) ∧ Below ws.heap.size ws wr) (fun i _ _ => xs.length - (intOf i).toNat)
      case atStart => exact ⟨0, rfl, by omega, by simp, Below.refl _ _⟩
      case round =>
        obtain ⟨k, rfl, hk, hm, hb⟩ := hrel
        have Hb := Lib.hid hb; clear hb
        by_cases hlt : k < xs.length
        · obtain ⟨ax, ox, rfl, hax, hz⟩ := (Hrx.out.below Hb.out).2 (by omega)
          have z0 := hz k (.int .i64 xs[k]) (by simp [ic, hlt])
          have htk : decide ((l : Int) ∈ xs.take (k + 1)) = (decide ((l : Int) ∈ xs.take k) || decide (xs[k] = (l : Int))) := by
            rw [List.take_succ_eq_append_getElem hlt, Bool.eq_iff_iff]
            simp only [decide_eq_true_eq, Bool.or_eq_true, List.mem_append, List.mem_singleton]
            exact or_congr Iff.rfl ⟨Eq.symm, Eq.symm⟩
          have Htk := Lib.hid htk
          obtain ⟨bm, hbm⟩ : ∃ b, decide ((l : Int) ∈ xs.take k) = b := ⟨_, rfl⟩
          rw [hbm] at hm htk
          subst hm
          obtain ⟨bx, hbx⟩ : ∃ b, decide (xs[k] = (l : Int)) = b := ⟨_, rfl⟩
          have hbx2 : (xs[k] == (l : Int)) = bx := by rw [← hbx]; rfl
          rw [hbx] at htk
          have Htk2 := Lib.hid htk
          clear htk hbx hbm Htk
          cases k with
          | zero =>
            generalize xs[0] = y at *
            clear hz
            simp only [Nat.add_zero] at z0
            have e0 : ((0 : Nat) : Int) = 0 := rfl
            rw [e0]
            clear e0
            cases bm <;> cases bx
            all_goals
              go_wp2_with (first
                | ((with_reducible refine Lex.at_region ?_); with_reducible refine Lex.wp_region_lex (by kernel_rfl) (by decide +kernel) ?_)
                | ((with_reducible refine Lex.at_fin ?_); with_reducible refine Lex.fin_on (by kernel_rfl) ?_))
              exact ⟨⟨0 + 1, (by first | rfl | go_num), by omega, by rw [Htk2.out]; rfl, Hb.out.drew⟩, by simp [intOf]; omega⟩
          | succ j =>
            have hjl : j < xs.length := by omega
            have z1 := hz j (.int .i64 xs[j]) (by simp [ic, hjl])
            have hlt2 : xs[j] < xs[j + 1] := (List.pairwise_iff_getElem.1 Hasc.out) j (j + 1) hjl hlt (by omega)
            generalize xs[j + 1] = y at *
            generalize xs[j] = y' at *
            have f1 : decide (y ≤ y') = false := decide_eq_false (by omega)
            clear hz
            cases bm <;> cases bx
            all_goals
              go_wp2_with (first
                | ((with_reducible refine Lex.at_region ?_); with_reducible refine Lex.wp_region_lex (by kernel_rfl) (by decide +kernel) ?_)
                | ((with_reducible refine Lex.at_fin ?_); with_reducible refine Lex.fin_on (by kernel_rfl) ?_))
              exact ⟨⟨j + 1 + 1, by go_num, by omega, by rw [Htk2.out]; rfl, Hb.out.drew⟩, by simp [intOf]; omega⟩
        · obtain rfl : k = xs.length := by omega
          rw [List.take_length] at hm
          have hiff : (l : Int) ∈ xs ↔ H ≠ G := by
            rw [Hmem.out]
            constructor
            · rintro ⟨l', e, h⟩
              obtain rfl : l' = l := by omega
              exact hasI.out.1 h
            · intro h
              exact ⟨l, rfl, hasI.out.2 h⟩
          have Rid := Lib.hid (rst_id oa)
          have Hrj3 := Lib.hid ((Hb.out.block _ (heap_lt Hrj.out)).trans Hrj.out); have Hrd3 := Lib.hid ((Hb.out.block _ (heap_lt Hrd2.out)).trans Hrd2.out); have Hrh3 := Lib.hid ((Hb.out.block _ (heap_lt Hrh2.out)).trans Hrh2.out); have Hrg3 := Lib.hid ((Hb.out.block _ (heap_lt Hrg2.out)).trans Hrg2.out)
          have Vj' := Lib.hid (Vj.out.below Hb.out); have Vd' := Lib.hid (Vd.out.below Hb.out); have Vh3 := Lib.hid (Vh2.out.below Hb.out); have Vg3 := Lib.hid (Vg2.out.below Hb.out)
          have By := Lib.hid (Bs.out.step Hb.out)
          clear Hrj Hrd2 Hrh2 Hrg2 Vj Vd Vh2 Vg2 Bs Hb
          have Vj := Vj'; have Vd := Vd'
          generalize wr = wy at *
          by_cases hHG : H = G
          · have e1 : decide ((l : Int) ∈ xs) = false := decide_eq_false (fun h => hiff.1 h hHG)
            rw [e1] at hm
            subst hm
            have Heq := Lib.hid (fun va vb wx (h1 : DV wx va H) (h2 : DV wx vb G) => (by have := eqd_tree va vb H G wx h1 h2; rwa [decide_eq_true hHG] at this : Calls Try.prog 15 #[va, vb] wx (ER true wx)))
            clear hiff e1 hHG
            have Y0j := Lib.hid (show wy.drew.cell? ⟨gj, 0, none⟩ = _ from (cells2 Hrj3.out).1)
            have Lj := Lib.hid (show gj < wy.drew.heap.size from heap_lt Hrj3.out)
            have Rj := Lib.hid (show wy.drew.heap[gj]? = _ from Hrj3.out)
            have Y0d := Lib.hid (show wy.drew.cell? ⟨w1.heap.size, 0, none⟩ = _ from (cells2 Hrd3.out).1)
            have Ld := Lib.hid (show w1.heap.size < wy.drew.heap.size from heap_lt Hrd3.out)
            have Rd := Lib.hid (show wy.drew.heap[w1.heap.size]? = _ from Hrd3.out)
            have Y0h := Lib.hid (show wy.drew.cell? ⟨gh, 0, none⟩ = _ from (cells2 Hrh3.out).1)
            have Lh := Lib.hid (show gh < wy.drew.heap.size from heap_lt Hrh3.out)
            have Rh := Lib.hid (show wy.drew.heap[gh]? = _ from Hrh3.out)
            have Y0g := Lib.hid (show wy.drew.cell? ⟨gg, 0, none⟩ = _ from (cells2 Hrg3.out).1)
            have Lg := Lib.hid (show gg < wy.drew.heap.size from heap_lt Hrg3.out)
            have Rg := Lib.hid (show wy.drew.heap[gg]? = _ from Hrg3.out)
            have B0 := Lib.hid (show Below wy.heap.size wy wy.drew from (Below.refl _ _).drew)
            obtain ⟨z0j, z1j, -⟩ := cells2 Hrj3.out
            obtain ⟨z0d, z1d, -⟩ := cells2 Hrd3.out
            obtain ⟨z0h, z1h, -⟩ := cells2 Hrh3.out
            obtain ⟨z0g, z1g, -⟩ := cells2 Hrg3.out
            go_wp2_with (first
              | ((with_reducible refine Lex.at_finK ?_); refine LexK.finE_on (by kernel_rfl) (by repeat first | exact LexK.finL_nil | refine LexK.finL_none rfl ?_ | refine LexK.finL_skip (by decide +kernel) ?_ | refine LexK.finL_take rfl Lj.out Y0j.out ?_ | refine LexK.finL_take rfl Ld.out Y0d.out ?_ | refine LexK.finL_take rfl Lh.out Y0h.out ?_ | refine LexK.finL_take rfl Lg.out Y0g.out ?_) ?_)
              | ((with_reducible refine Lex.at_region ?_); refine LexK.wp_region_lexE (fun x => x < wy.drew.heap.size) (by kernel_rfl) (by decide +kernel) ?_)
              | ((with_reducible refine Lex.at_wpX ?_); with_reducible refine LexK.wpX_plain (by decide +kernel) ?_)
              | ((with_reducible refine Lex.at_wpX ?_); with_reducible refine LexK.wpX_call ?_)
              | ((with_reducible refine Lex.at_wpX ?_); with_reducible refine LexK.wpX_nil ?_)
              | ((with_reducible refine Lex.at_ext ?_); with_reducible refine LexK.ext_on Hext.out ?_)
              | (go_at_call 15; ((with_reducible refine (eqd_same _ _ ta _ (Vj.out.below B0.out) (Vd.out.below B0.out)).mono ?_); rintro e x0 ⟨rfl, q⟩;  have Hext := Lib.hid (LexK.Ext.of_below (Kp := fun x => x < wy.drew.heap.size) q (Nat.le_refl _)); have B1 := Lib.hid (B0.out.step q); have q0 : Below wy.drew.heap.size wy.drew x0 := q; have Q0 := Lib.hid q0; obtain ⟨u0j, t0j, -⟩ := cells2 ((q0.block _ Lj.out).trans Rj.out); obtain ⟨u0d, t0d, -⟩ := cells2 ((q0.block _ Ld.out).trans Rd.out); obtain ⟨u0h, t0h, -⟩ := cells2 ((q0.block _ Lh.out).trans Rh.out); obtain ⟨u0g, t0g, -⟩ := cells2 ((q0.block _ Lg.out).trans Rg.out); clear q q0))
              | (go_at_call 15; ((with_reducible refine (Heq.out _ _ _ (Vh3.out.below B1.out) (Vg3.out.below B1.out)).mono ?_); rintro e x1 ⟨rfl, q⟩;  have Hext := Lib.hid (LexK.Ext.of_below (Kp := fun x => x < wy.drew.heap.size) q (Nat.le_refl _)); have B2 := Lib.hid (B1.out.step q); have q0 : Below wy.drew.heap.size wy.drew x1 := Q0.out.trans (q.mono Q0.out.size); have Q1 := Lib.hid q0; obtain ⟨u1j, t1j, -⟩ := cells2 ((q0.block _ Lj.out).trans Rj.out); obtain ⟨u1d, t1d, -⟩ := cells2 ((q0.block _ Ld.out).trans Rd.out); obtain ⟨u1h, t1h, -⟩ := cells2 ((q0.block _ Lh.out).trans Rh.out); obtain ⟨u1g, t1g, -⟩ := cells2 ((q0.block _ Lg.out).trans Rg.out); clear q q0))
              | (go_at_call 11; ((with_reducible refine (valid_tree _ H _ (Vh3.out.below B2.out)).mono ?_); rintro e x2 ⟨rfl, q⟩;  have Hext := Lib.hid (LexK.Ext.of_below (Kp := fun x => x < wy.drew.heap.size) q (Nat.le_refl _)); have B3 := Lib.hid (B2.out.step q); have q0 : Below wy.drew.heap.size wy.drew x2 := Q1.out.trans (q.mono Q1.out.size); have Q2 := Lib.hid q0; obtain ⟨u2j, t2j, -⟩ := cells2 ((q0.block _ Lj.out).trans Rj.out); obtain ⟨u2d, t2d, -⟩ := cells2 ((q0.block _ Ld.out).trans Rd.out); obtain ⟨u2h, t2h, -⟩ := cells2 ((q0.block _ Lh.out).trans Rh.out); obtain ⟨u2g, t2g, -⟩ := cells2 ((q0.block _ Lg.out).trans Rg.out); clear q q0))
              | (go_at_call 11; ((with_reducible refine (valid_tree _ G _ (Vg3.out.below B3.out)).mono ?_); rintro e x3 ⟨rfl, q⟩;  have Hext := Lib.hid (LexK.Ext.of_below (Kp := fun x => x < wy.drew.heap.size) q (Nat.le_refl _)); have B4 := Lib.hid (B3.out.step q); have q0 : Below wy.drew.heap.size wy.drew x3 := Q2.out.trans (q.mono Q2.out.size); have Q3 := Lib.hid q0; obtain ⟨u3j, t3j, -⟩ := cells2 ((q0.block _ Lj.out).trans Rj.out); obtain ⟨u3d, t3d, -⟩ := cells2 ((q0.block _ Ld.out).trans Rd.out); obtain ⟨u3h, t3h, -⟩ := cells2 ((q0.block _ Lh.out).trans Rh.out); obtain ⟨u3g, t3g, -⟩ := cells2 ((q0.block _ Lg.out).trans Rg.out); clear q q0))
              | (go_at_call 25; ((with_reducible refine (restrict_any _ (-1) true ta ta _ (Vd.out.below B4.out) Rid.out).mono ?_); rintro e x4 ⟨v4, rfl, d, q⟩;  have Hd4 := Lib.hid d; have Hext := Lib.hid (LexK.Ext.of_below (Kp := fun x => x < wy.drew.heap.size) q (Nat.le_refl _)); have B5 := Lib.hid (B4.out.step q); have q0 : Below wy.drew.heap.size wy.drew x4 := Q3.out.trans (q.mono Q3.out.size); have Q4 := Lib.hid q0; obtain ⟨u4j, t4j, -⟩ := cells2 ((q0.block _ Lj.out).trans Rj.out); obtain ⟨u4d, t4d, -⟩ := cells2 ((q0.block _ Ld.out).trans Rd.out); obtain ⟨u4h, t4h, -⟩ := cells2 ((q0.block _ Lh.out).trans Rh.out); obtain ⟨u4g, t4g, -⟩ := cells2 ((q0.block _ Lg.out).trans Rg.out); clear d q q0))
              | (go_at_call 15; ((with_reducible refine (eqd_same _ _ ta _ Hd4.out (Vd.out.below B5.out)).mono ?_); rintro e x5 ⟨rfl, q⟩; have Hd4 := Lib.hid (Hd4.out.below q); have Hext := Lib.hid (LexK.Ext.of_below (Kp := fun x => x < wy.drew.heap.size) q (Nat.le_refl _)); have B6 := Lib.hid (B5.out.step q); have q0 : Below wy.drew.heap.size wy.drew x5 := Q4.out.trans (q.mono Q4.out.size); have Q5 := Lib.hid q0; obtain ⟨u5j, t5j, -⟩ := cells2 ((q0.block _ Lj.out).trans Rj.out); obtain ⟨u5d, t5d, -⟩ := cells2 ((q0.block _ Ld.out).trans Rd.out); obtain ⟨u5h, t5h, -⟩ := cells2 ((q0.block _ Lh.out).trans Rh.out); obtain ⟨u5g, t5g, -⟩ := cells2 ((q0.block _ Lg.out).trans Rg.out); clear q q0))
              | (go_at_call 9; ((with_reducible refine (awake_any _).mono ?_); rintro e x6 ⟨rfl, q⟩; have Hd4 := Lib.hid (Hd4.out.below q); have Hext := Lib.hid (LexK.Ext.of_below (Kp := fun x => x < wy.drew.heap.size) q (Nat.le_refl _)); have B7 := Lib.hid (B6.out.step q); have q0 : Below wy.drew.heap.size wy.drew x6 := Q5.out.trans (q.mono Q5.out.size); have Q6 := Lib.hid q0; obtain ⟨u6j, t6j, -⟩ := cells2 ((q0.block _ Lj.out).trans Rj.out); obtain ⟨u6d, t6d, -⟩ := cells2 ((q0.block _ Ld.out).trans Rd.out); obtain ⟨u6h, t6h, -⟩ := cells2 ((q0.block _ Lh.out).trans Rh.out); obtain ⟨u6g, t6g, -⟩ := cells2 ((q0.block _ Lg.out).trans Rg.out); clear q q0)))
            go_ret
            exact ⟨rfl, By.out.step B7.out⟩
          · have e1 : decide ((l : Int) ∈ xs) = true := decide_eq_true (hiff.2 hHG)
            rw [e1] at hm
            subst hm
            have Heq := Lib.hid (fun va vb wx (h1 : DV wx va H) (h2 : DV wx vb G) => (by have := eqd_tree va vb H G wx h1 h2; rwa [decide_eq_false hHG] at this : Calls Try.prog 15 #[va, vb] wx (ER false wx)))
            clear hiff e1 hHG
            have Y0j := Lib.hid (show wy.drew.cell? ⟨gj, 0, none⟩ = _ from (cells2 Hrj3.out).1)
            have Lj := Lib.hid (show gj < wy.drew.heap.size from heap_lt Hrj3.out)
            have Rj := Lib.hid (show wy.drew.heap[gj]? = _ from Hrj3.out)
            have Y0d := Lib.hid (show wy.drew.cell? ⟨w1.heap.size, 0, none⟩ = _ from (cells2 Hrd3.out).1)
            have Ld := Lib.hid (show w1.heap.size < wy.drew.heap.size from heap_lt Hrd3.out)
            have Rd := Lib.hid (show wy.drew.heap[w1.heap.size]? = _ from Hrd3.out)
            have Y0h := Lib.hid (show wy.drew.cell? ⟨gh, 0, none⟩ = _ from (cells2 Hrh3.out).1)
            have Lh := Lib.hid (show gh < wy.drew.heap.size from heap_lt Hrh3.out)
            have Rh := Lib.hid (show wy.drew.heap[gh]? = _ from Hrh3.out)
            have Y0g := Lib.hid (show wy.drew.cell? ⟨gg, 0, none⟩ = _ from (cells2 Hrg3.out).1)
            have Lg := Lib.hid (show gg < wy.drew.heap.size from heap_lt Hrg3.out)
            have Rg := Lib.hid (show wy.drew.heap[gg]? = _ from Hrg3.out)
            have B0 := Lib.hid (show Below wy.heap.size wy wy.drew from (Below.refl _ _).drew)
            obtain ⟨z0j, z1j, -⟩ := cells2 Hrj3.out
            obtain ⟨z0d, z1d, -⟩ := cells2 Hrd3.out
            obtain ⟨z0h, z1h, -⟩ := cells2 Hrh3.out
            obtain ⟨z0g, z1g, -⟩ := cells2 Hrg3.out
            go_wp2_with (first
              | ((with_reducible refine Lex.at_finK ?_); refine LexK.finE_on (by kernel_rfl) (by repeat first | exact LexK.finL_nil | refine LexK.finL_none rfl ?_ | refine LexK.finL_skip (by decide +kernel) ?_ | refine LexK.finL_take rfl Lj.out Y0j.out ?_ | refine LexK.finL_take rfl Ld.out Y0d.out ?_ | refine LexK.finL_take rfl Lh.out Y0h.out ?_ | refine LexK.finL_take rfl Lg.out Y0g.out ?_) ?_)
              | ((with_reducible refine Lex.at_region ?_); refine LexK.wp_region_lexE (fun x => x < wy.drew.heap.size) (by kernel_rfl) (by decide +kernel) ?_)
              | ((with_reducible refine Lex.at_wpX ?_); with_reducible refine LexK.wpX_plain (by decide +kernel) ?_)
              | ((with_reducible refine Lex.at_wpX ?_); with_reducible refine LexK.wpX_call ?_)
              | ((with_reducible refine Lex.at_wpX ?_); with_reducible refine LexK.wpX_nil ?_)
              | ((with_reducible refine Lex.at_ext ?_); with_reducible refine LexK.ext_on Hext.out ?_)
              | (go_at_call 15; ((with_reducible refine (eqd_same _ _ ta _ (Vj.out.below B0.out) (Vd.out.below B0.out)).mono ?_); rintro e x0 ⟨rfl, q⟩;  have Hext := Lib.hid (LexK.Ext.of_below (Kp := fun x => x < wy.drew.heap.size) q (Nat.le_refl _)); have B1 := Lib.hid (B0.out.step q); have q0 : Below wy.drew.heap.size wy.drew x0 := q; have Q0 := Lib.hid q0; obtain ⟨u0j, t0j, -⟩ := cells2 ((q0.block _ Lj.out).trans Rj.out); obtain ⟨u0d, t0d, -⟩ := cells2 ((q0.block _ Ld.out).trans Rd.out); obtain ⟨u0h, t0h, -⟩ := cells2 ((q0.block _ Lh.out).trans Rh.out); obtain ⟨u0g, t0g, -⟩ := cells2 ((q0.block _ Lg.out).trans Rg.out); clear q q0))
              | (go_at_call 15; ((with_reducible refine (Heq.out _ _ _ (Vh3.out.below B1.out) (Vg3.out.below B1.out)).mono ?_); rintro e x1 ⟨rfl, q⟩;  have Hext := Lib.hid (LexK.Ext.of_below (Kp := fun x => x < wy.drew.heap.size) q (Nat.le_refl _)); have B2 := Lib.hid (B1.out.step q); have q0 : Below wy.drew.heap.size wy.drew x1 := Q0.out.trans (q.mono Q0.out.size); have Q1 := Lib.hid q0; obtain ⟨u1j, t1j, -⟩ := cells2 ((q0.block _ Lj.out).trans Rj.out); obtain ⟨u1d, t1d, -⟩ := cells2 ((q0.block _ Ld.out).trans Rd.out); obtain ⟨u1h, t1h, -⟩ := cells2 ((q0.block _ Lh.out).trans Rh.out); obtain ⟨u1g, t1g, -⟩ := cells2 ((q0.block _ Lg.out).trans Rg.out); clear q q0))
              | (go_at_call 11; ((with_reducible refine (valid_tree _ H _ (Vh3.out.below B2.out)).mono ?_); rintro e x2 ⟨rfl, q⟩;  have Hext := Lib.hid (LexK.Ext.of_below (Kp := fun x => x < wy.drew.heap.size) q (Nat.le_refl _)); have B3 := Lib.hid (B2.out.step q); have q0 : Below wy.drew.heap.size wy.drew x2 := Q1.out.trans (q.mono Q1.out.size); have Q2 := Lib.hid q0; obtain ⟨u2j, t2j, -⟩ := cells2 ((q0.block _ Lj.out).trans Rj.out); obtain ⟨u2d, t2d, -⟩ := cells2 ((q0.block _ Ld.out).trans Rd.out); obtain ⟨u2h, t2h, -⟩ := cells2 ((q0.block _ Lh.out).trans Rh.out); obtain ⟨u2g, t2g, -⟩ := cells2 ((q0.block _ Lg.out).trans Rg.out); clear q q0))
              | (go_at_call 11; ((with_reducible refine (valid_tree _ G _ (Vg3.out.below B3.out)).mono ?_); rintro e x3 ⟨rfl, q⟩;  have Hext := Lib.hid (LexK.Ext.of_below (Kp := fun x => x < wy.drew.heap.size) q (Nat.le_refl _)); have B4 := Lib.hid (B3.out.step q); have q0 : Below wy.drew.heap.size wy.drew x3 := Q2.out.trans (q.mono Q2.out.size); have Q3 := Lib.hid q0; obtain ⟨u3j, t3j, -⟩ := cells2 ((q0.block _ Lj.out).trans Rj.out); obtain ⟨u3d, t3d, -⟩ := cells2 ((q0.block _ Ld.out).trans Rd.out); obtain ⟨u3h, t3h, -⟩ := cells2 ((q0.block _ Lh.out).trans Rh.out); obtain ⟨u3g, t3g, -⟩ := cells2 ((q0.block _ Lg.out).trans Rg.out); clear q q0))
              | (go_at_call 25; ((with_reducible refine (restrict_any _ (-1) true ta ta _ (Vd.out.below B4.out) Rid.out).mono ?_); rintro e x4 ⟨v4, rfl, d, q⟩;  have Hd4 := Lib.hid d; have Hext := Lib.hid (LexK.Ext.of_below (Kp := fun x => x < wy.drew.heap.size) q (Nat.le_refl _)); have B5 := Lib.hid (B4.out.step q); have q0 : Below wy.drew.heap.size wy.drew x4 := Q3.out.trans (q.mono Q3.out.size); have Q4 := Lib.hid q0; obtain ⟨u4j, t4j, -⟩ := cells2 ((q0.block _ Lj.out).trans Rj.out); obtain ⟨u4d, t4d, -⟩ := cells2 ((q0.block _ Ld.out).trans Rd.out); obtain ⟨u4h, t4h, -⟩ := cells2 ((q0.block _ Lh.out).trans Rh.out); obtain ⟨u4g, t4g, -⟩ := cells2 ((q0.block _ Lg.out).trans Rg.out); clear d q q0))
              | (go_at_call 15; ((with_reducible refine (eqd_same _ _ ta _ Hd4.out (Vd.out.below B5.out)).mono ?_); rintro e x5 ⟨rfl, q⟩; have Hd4 := Lib.hid (Hd4.out.below q); have Hext := Lib.hid (LexK.Ext.of_below (Kp := fun x => x < wy.drew.heap.size) q (Nat.le_refl _)); have B6 := Lib.hid (B5.out.step q); have q0 : Below wy.drew.heap.size wy.drew x5 := Q4.out.trans (q.mono Q4.out.size); have Q5 := Lib.hid q0; obtain ⟨u5j, t5j, -⟩ := cells2 ((q0.block _ Lj.out).trans Rj.out); obtain ⟨u5d, t5d, -⟩ := cells2 ((q0.block _ Ld.out).trans Rd.out); obtain ⟨u5h, t5h, -⟩ := cells2 ((q0.block _ Lh.out).trans Rh.out); obtain ⟨u5g, t5g, -⟩ := cells2 ((q0.block _ Lg.out).trans Rg.out); clear q q0))
              | (go_at_call 9; ((with_reducible refine (awake_any _).mono ?_); rintro e x6 ⟨rfl, q⟩; have Hd4 := Lib.hid (Hd4.out.below q); have Hext := Lib.hid (LexK.Ext.of_below (Kp := fun x => x < wy.drew.heap.size) q (Nat.le_refl _)); have B7 := Lib.hid (B6.out.step q); have q0 : Below wy.drew.heap.size wy.drew x6 := Q5.out.trans (q.mono Q5.out.size); have Q6 := Lib.hid q0; obtain ⟨u6j, t6j, -⟩ := cells2 ((q0.block _ Lj.out).trans Rj.out); obtain ⟨u6d, t6d, -⟩ := cells2 ((q0.block _ Ld.out).trans Rd.out); obtain ⟨u6h, t6h, -⟩ := cells2 ((q0.block _ Lh.out).trans Rh.out); obtain ⟨u6g, t6g, -⟩ := cells2 ((q0.block _ Lg.out).trans Rg.out); clear q q0)))
            go_ret
            exact ⟨rfl, By.out.step B7.out⟩
end Go.Proofs.Ytkppcibffbnhoaa
