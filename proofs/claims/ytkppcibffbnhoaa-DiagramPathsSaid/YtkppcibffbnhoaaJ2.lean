/-
  Walks: FromPaths.
-/
import Derived.Test.YtkppcibffbnhoaaJ1
namespace Go.Proofs.Ytkppcibffbnhoaa
open Go.RowKit
set_option maxRecDepth 100000

set_option maxHeartbeats 32000000 in
theorem frompaths_any (P : Option Addr) (n cp : Nat) (ps : List IP) (w : World) (h : PS w P n ps) (hn : ps.length ≤ 1000) (hl : ∀ k (h : k < ps.length), (ps[k]).1.length ≤ 1000 ∧ (ps[k]).2.length ≤ 1000) :
    Calls Try.prog 23 #[.slice P n cp] w (FR ps w) := by
  obtain rfl := h.len
  have hal := (Below.refl w.heap.size w).alloc (Nat.le_refl _) (.cells #[.slice none 0 0, .int .i64 0] 24)
  have hr0 := heap_alloc_new w (.cells #[.slice none 0 0, .int .i64 0] 24)
  have H := Lib.hid h; clear h
  have HL := Lib.hid hl; clear hl
  go_enter Try.func23, Try.ntmps23
  go_upto_region 1 with fail
  have Hal := Lib.hid hal; have Hr0 := Lib.hid hr0; clear hal hr0
  generalize w.alloc (.cells #[.slice none 0 0, .int .i64 0] 24) = w1 at *
  go_wp2
  go_loopw [22] (fun i wr => ∃ k : Nat, i = .int .i64 k ∧ k ≤ ps.length ∧ (∀ i (hi : i < ps.length), i < k → litsI (ps[i]).1 ∧ litsI (ps[i]).2) ∧ wr.heap[w.heap.size]? = some (.cells #[.slice none 0 0, .int .i64 0] 24) ∧ Below w.heap.size w wr) (fun i _ => ps.length - (intOf i).toNat)
  case atStart => exact ⟨0, rfl, by omega, fun i hi h0 => by omega, Hr0.out, Hal.out⟩
  clear Hal Hr0
  case round =>
    obtain ⟨k, rfl, hk, hall, hr0, hb⟩ := hrel
    have Hall := Lib.hid hall; have Hr0 := Lib.hid hr0; have Hb := Lib.hid hb
    clear hall hr0 hb
    by_cases hlt : k < ps.length
    · have hps := H.out.below Hb.out
      obtain ⟨a, o, v1, v2, rfl, ha, x0, x1, i1, i2⟩ := hps.at' k hlt
      obtain ⟨hl1, hl2⟩ := HL.out k hlt
      have hnx : litsI (ps[k]).1 ∧ litsI (ps[k]).2 → ∀ i (hi : i < ps.length), i < k + 1 → litsI (ps[i]).1 ∧ litsI (ps[i]).2 := fun h i hi hik => by
        rcases Nat.lt_succ_iff_lt_or_eq.1 hik with h1 | rfl
        · exact Hall.out i hi h1
        · exact h
      have hno : ¬ (litsI (ps[k]).1 ∧ litsI (ps[k]).2) → ¬ okP ps := fun h h2 => h (h2 k hlt)
      generalize ps[k] = x at *
      obtain ⟨pos, neg⟩ := x
      dsimp only at i1 i2 hl1 hl2 hnx hno
      rw [← litsI_app] at hnx hno
      obtain ⟨p1, c1, rfl, hc1, hq1⟩ := i1
      obtain ⟨p2, c2, rfl, hc2, hq2⟩ := i2
      have Hnx := Lib.hid hnx; have Hno := Lib.hid hno
      clear hnx hno hps
      have Hi1 := Lib.hid (show IS wr (.slice p1 pos.length c1) pos from ⟨p1, c1, rfl, hc1, hq1⟩); have Hq2 := Lib.hid hq2
      clear hq1 hq2
      go_upto_region 4 with fail
      have hal5 : Below wr.heap.size wr (wr.alloc (.cells #[.slice p1 pos.length c1, .slice p2 neg.length c2] 46)) := (Below.refl _ _).alloc (Nat.le_refl _) _
      have hn5 := heap_alloc_new wr (.cells #[.slice p1 pos.length c1, .slice p2 neg.length c2] 46)
      have Hi15 := Lib.hid (Hi1.out.below hal5); have Hq25 := Lib.hid (Hq2.out.below hal5)
      have Hr05 := Lib.hid ((hal5.block _ (heap_lt Hr0.out)).trans Hr0.out); have Hb5 := Lib.hid (Hb.out.step hal5)
      clear Hi1 Hq2 Hr0 Hb hal5
      generalize wr.alloc (.cells #[.slice p1 pos.length c1, .slice p2 neg.length c2] 46) = w5 at *
      generalize wr.heap.size = g5 at *
      obtain ⟨y0, y1, -⟩ := cells2 hn5
      have Y0 := Lib.hid (show w5.drew.cell? ⟨g5, 0, none⟩ = _ from y0)
      have Y1 := Lib.hid (show w5.drew.cell? ⟨g5, 1, none⟩ = _ from y1)
      have La := Lib.hid (show g5 < w5.drew.heap.size from heap_lt hn5)
      have hb2 : pos.length + neg.length ≤ 67108864 := by omega
      obtain ⟨xs, hxs⟩ : ∃ xs, xs = pos ++ neg := ⟨_, rfl⟩
      have Hxs := Lib.hid hxs
      have Hlen := Lib.hid (show pos.length + neg.length = xs.length by rw [hxs, List.length_append])
      rw [← hxs] at Hnx Hno
      have hxl : xs.length ≤ 2000 := by rw [hxs, List.length_append]; omega
      clear hxs
      have N5 := Lib.hid hn5
      clear hn5 x0 x1
      go_upto_region 5 with (first
        | ((with_reducible refine Lex.at_finK ?_); refine LexK.finE_on (by kernel_rfl) (by repeat first | exact LexK.finL_nil | refine LexK.finL_none rfl ?_ | refine LexK.finL_skip (by decide +kernel) ?_ | refine LexK.finL_take rfl La.out Y0.out ?_ | refine LexK.finL_take rfl La.out Y1.out ?_) ?_)
        | ((with_reducible refine Lex.at_region ?_); refine LexK.wp_region_lexE (fun x => x < w5.drew.heap.size) (by kernel_rfl) (by decide +kernel) ?_)
        | ((with_reducible refine Lex.at_wpX ?_); with_reducible refine LexK.wpX_plain (by decide +kernel) ?_)
        | ((with_reducible refine Lex.at_wpX ?_); with_reducible refine LexK.wpX_call ?_)
        | ((with_reducible refine Lex.at_wpX ?_); with_reducible refine LexK.wpX_nil ?_)
        | ((with_reducible refine Lex.at_ext ?_); with_reducible refine LexK.ext_on (ext_low Hbe.out) ?_)
        | (go_at_call 44; refine (clone_own _ pos _ (Hi15.out.below (Below.refl _ _).drew) (by omega)).mono ?_; rintro e w3 ⟨v3, rfl, ho3, hb3⟩; have Ho3 := Lib.hid ho3; have Hbe := Lib.hid hb3; obtain ⟨x30, x31⟩ := (show w3.cell? ⟨g5, 0, none⟩ = _ ∧ w3.cell? ⟨g5, 1, none⟩ = _ from ⟨(Hbe.out.cell (p := ⟨g5, _, none⟩) La.out).trans Y0.out, (Hbe.out.cell (p := ⟨g5, _, none⟩) La.out).trans Y1.out⟩); have Hq23 := Lib.hid (Hq25.out.below (below_drew0 Hbe.out)); have Hb3 := Lib.hid Hbe.out; have hz3 := Hbe.out.size; clear ho3 hb3)
        | (at_builtin; refine wpList_append_ownrc rfl (.tmp 28) (.tmp 30) 44 rfl 3 (by kernel_rfl) int_info rfl (by decide) (by decide) w5.drew.heap.size _ p2 pos.length neg.length c2 (ic pos) (ic neg) hz3 v3 rfl rfl Ho3.out Hq23.out (ic_one _) hb2 ?_; intro v4 w4 ho4 hf4; rw [Hlen.out, ← ic_app, ← Hxs.out] at ho4; obtain ⟨p4, c4, rfl⟩ := own_slice ho4; have Ho4 := Lib.hid ho4; have Hbe := Lib.hid (hf4.below hz3 (by simp) (fun g hg => (Ho3.out.lt g hg).1)); have Hb4 := Lib.hid (Hb3.out.trans Hbe.out); clear ho4 hf4))
      have hr4 := RC.of_own Ho4.out
      have hr04 := (Hb4.out.block _ (show w.heap.size < w5.drew.heap.size from heap_lt Hr05.out)).trans (show w5.drew.heap[w.heap.size]? = _ from Hr05.out)
      have Hr04 := Lib.hid hr04
      have Hb04 := Lib.hid (Hb5.out.trans ((below_drew0 Hb4.out).mono Hb5.out.size))
      have Hr4 := Lib.hid hr4
      clear hr4 hr04 Hxs Hlen Ho4 Hb4 Hb3 Hbe hz3 x30 x31 Hq23 Y0 Y1 Ho3 hb2 La y0 y1 Hr05 Hb5 Hi15 Hq25 N5
      go_wp2
      go_loop [33] (fun i => ∃ j : Nat, i = .int .i64 j ∧ j ≤ xs.length ∧ (∀ i (hi : i < xs.length), i < j → 0 ≤ xs[i] ∧ xs[i] < 12)) (fun i => xs.length - (intOf i).toNat)
      case atStart => exact ⟨0, rfl, by omega, fun i hi h0 => by omega⟩
      case round =>
        obtain ⟨j, rfl, hj, hall⟩ := hrel
        have Hal2 := Lib.hid hall; clear hall
        by_cases hjl : j < xs.length
        · obtain ⟨ab, off, rfl, hab, hz⟩ := Hr4.out.2 (by omega)
          have z0 := hz j (.int .i64 xs[j]) (by simp [ic, hjl])
          have hnx2 : 0 ≤ xs[j] ∧ xs[j] < 12 → ∀ i (hi : i < xs.length), i < j + 1 → 0 ≤ xs[i] ∧ xs[i] < 12 := fun h i hi hik => by
            rcases Nat.lt_succ_iff_lt_or_eq.1 hik with h1 | rfl
            · exact Hal2.out i hi h1
            · exact h
          have hno2 : ¬ (0 ≤ xs[j] ∧ xs[j] < 12) → ¬ okP ps := fun h => Hno.out fun h2 => h (h2 j hjl)
          generalize xs[j] = x at *
          have Hnx2 := Lib.hid hnx2; have Hno2 := Lib.hid hno2; clear hnx2 hno2 hz
          have his := fun w => islit_any x w
          by_cases g1 : 0 ≤ x ∧ x < 12
          case neg =>
            rw [show (decide (0 ≤ x) && decide (x < 12)) = false by simp; omega] at his
            have Hn := Lib.hid (Hno2.out g1)
            have His := Lib.hid his; clear his
            go_wp2_with (first
              | (go_at_call 30; refine (His.out _).mono ?_; rintro e w9 ⟨rfl, rfl⟩)
              | (with_reducible refine wpList_store_row rfl 24 (.tmp 2) (.tmp 40) rfl _ _ rfl rfl _ _ Hr04.out (by kernel_rfl) (by kernel_rfl) (by kernel_rfl) ?_))
            refine bodyPost_ret (run_results_cell_tmp rfl _ _ w.heap.size 24 _ (0, 0) _ rfl (setRow_heap _ _ _ _ _ _ Hr04.out) rfl rfl (by kernel_rfl)) rfl ?_
            exact .inl ⟨Hn.out, rfl, below_setRow Hb04.out (Nat.le_refl _)⟩
          rw [show (decide (0 ≤ x) && decide (x < 12)) = true by simp; omega] at his
          have Hn := Lib.hid (Hnx2.out g1)
          have His := Lib.hid his; clear his
          go_wp2_with (go_at_call 30; refine (His.out _).mono ?_; rintro e w9 ⟨rfl, rfl⟩)
          exact ⟨⟨j + 1, by go_num, by omega, Hn.out⟩, by simp [intOf]; omega⟩
        · obtain rfl : j = xs.length := by omega
          have Hn := Lib.hid (Hnx.out fun i hi => Hal2.out i hi hi)
          go_wp2
          exact ⟨⟨k + 1, by go_num, by omega, Hn.out, Hr04.out, Hb04.out⟩, by simp [intOf]; omega⟩
    · obtain rfl : k = ps.length := by omega
      have hok : okP ps := fun i hi => Hall.out i hi hi
      have Hok := Lib.hid hok
      clear hok Hall
      go_upto_region 12 with (go_at_call 47; refine (false_any _).mono ?_; rintro e wf ⟨vf, rfl, df, bf⟩; obtain ⟨pf, nf, cf, rf, rfl⟩ := df.opened; have Df := Lib.hid df; have Bf := Lib.hid bf; clear df bf)
      have h8 := CD.new Df.out
      have b8 : Below wf.heap.size wf (wf.alloc (.cells #[.slice pf nf cf, .int .i64 rf] 24)) := (Below.refl _ _).alloc (Nat.le_refl _) _
      have H8 := Lib.hid h8
      have Hr8 := Lib.hid (((Bf.out.step b8).block _ (heap_lt Hr0.out)).trans Hr0.out)
      have Hb8 := Lib.hid (Hb.out.step (Bf.out.step b8))
      have hg8 : w.heap.size < wf.heap.size := Nat.lt_of_lt_of_le (heap_lt Hr0.out) Bf.out.size
      clear h8 b8 Df Bf Hr0 Hb
      generalize wf.alloc (.cells #[.slice pf nf cf, .int .i64 rf] 24) = w8 at *
      generalize wf.heap.size = g8 at *
      go_wp2
      go_loopw [46] (fun i wr => ∃ (k : Nat) (t : T), i = .int .i64 k ∧ k ≤ ps.length ∧ CD wr g8 t ∧ (∀ M, t.ev (bitsF M) = (ps.take k).any (holdsP M)) ∧ wr.heap[w.heap.size]? = some (.cells #[.slice none 0 0, .int .i64 0] 24) ∧ Below w.heap.size w wr) (fun i _ => ps.length - (intOf i).toNat)
      case atStart => exact ⟨0, _, rfl, by omega, H8.out, fun M => rfl, Hr8.out, Hb8.out⟩
      clear H8 Hr8 Hb8
      case round =>
        obtain ⟨k, t, rfl, hk, h8, hev, hr0, hb⟩ := hrel
        have H8 := Lib.hid h8; have Hev := Lib.hid hev; have Hr0 := Lib.hid hr0; have Hb := Lib.hid hb
        clear h8 hev hr0 hb
        by_cases hlt : k < ps.length
        case neg =>
          obtain rfl : k = ps.length := by omega
          obtain ⟨p9, n9, c9, r9, hrow, hdv⟩ := H8.out
          obtain ⟨z0, z1, -⟩ := cells2 hrow
          have Hdv := Lib.hid hdv; have Hrow := Lib.hid hrow; clear hrow hdv
          go_wp2_with (first
            | (with_reducible refine wpList_store_row rfl 24 (.tmp 2) (.tmp 88) rfl _ _ rfl rfl _ _ Hr0.out (by kernel_rfl) (by kernel_rfl) (by kernel_rfl) ?_))
          refine bodyPost_ret (run_results_cell_tmp rfl _ _ w.heap.size 24 _ (0, 0) _ rfl (setRow_heap _ _ _ _ _ _ Hr0.out) rfl rfl (by kernel_rfl)) rfl ?_
          exact .inr ⟨Hok.out, _, t, rfl, Hdv.out.setRow Hr0.out, fun M => by rw [Hev.out M, List.take_length], below_setRow Hb.out (Nat.le_refl _)⟩
        have hps := H.out.below Hb.out
        obtain ⟨a, o, v1, v2, rfl, ha, x0, x1, i1, i2⟩ := hps.at' k hlt
        obtain ⟨hl1, hl2⟩ := HL.out k hlt
        obtain ⟨ok1, ok2⟩ := Hok.out k hlt
        have htk : ∀ M, (ps.take (k + 1)).any (holdsP M) = ((ps.take k).any (holdsP M) || holdsP M ps[k]) := fun M => by rw [List.take_succ_eq_append_getElem hlt, List.any_append]; simp
        generalize ps[k] = x at *
        obtain ⟨pos, neg⟩ := x
        dsimp only at i1 i2 hl1 hl2 ok1 ok2
        obtain ⟨p1, c1, rfl, hc1, hq1⟩ := i1
        obtain ⟨p2, c2, rfl, hc2, hq2⟩ := i2
        have Hq1 := Lib.hid hq1; have Hq2 := Lib.hid hq2; have Htk := Lib.hid htk; have Ok1 := Lib.hid ok1; have Ok2 := Lib.hid ok2
        clear hq1 hq2 htk ok1 ok2 hps
        go_upto_region 15 with fail
        have hal5 : Below wr.heap.size wr (wr.alloc (.cells #[.slice p1 pos.length c1, .slice p2 neg.length c2] 46)) := (Below.refl _ _).alloc (Nat.le_refl _) _
        have hn5 := heap_alloc_new wr (.cells #[.slice p1 pos.length c1, .slice p2 neg.length c2] 46)
        have Hq15 := Lib.hid (Hq1.out.below hal5); have Hq25 := Lib.hid (Hq2.out.below hal5)
        have Hr5 := Lib.hid ((hal5.block _ (heap_lt Hr0.out)).trans Hr0.out); have Hb5 := Lib.hid (Hb.out.step hal5); have H85 := Lib.hid (H8.out.below hal5)
        clear Hq1 Hq2 Hr0 Hb H8 hal5 x0 x1
        generalize wr.alloc (.cells #[.slice p1 pos.length c1, .slice p2 neg.length c2] 46) = w5 at *
        generalize wr.heap.size = g5 at *
        have N5 := Lib.hid hn5
        clear hn5
        go_upto_region 16 with (go_at_call 28; refine (true_any _).mono ?_; rintro e wt ⟨vt, rfl, dt, bt⟩; obtain ⟨pt, nt, ct, rt, rfl⟩ := dt.opened; have Dt := Lib.hid dt; have Bt := Lib.hid bt; clear dt bt)
        have h11 := CD.new Dt.out
        have b11 : Below wt.heap.size wt (wt.alloc (.cells #[.slice pt nt ct, .int .i64 rt] 24)) := (Below.refl _ _).alloc (Nat.le_refl _) _
        have H11 := Lib.hid h11
        have B11 := Lib.hid b11
        have Hqt1 := Lib.hid (Hq15.out.below Bt.out); have Hqt2 := Lib.hid (Hq25.out.below Bt.out)
        have Nt := Lib.hid ((Bt.out.block _ (heap_lt N5.out)).trans N5.out)
        have H8t := Lib.hid (H85.out.below Bt.out)
        have Hrt := Lib.hid ((Bt.out.block _ (heap_lt Hr5.out)).trans Hr5.out)
        have Hbt := Lib.hid (Hb5.out.step Bt.out)
        clear h11 b11 Dt Bt Hq15 Hq25 N5 H85 Hr5 Hb5
        generalize wt.alloc (.cells #[.slice pt nt ct, .int .i64 rt] 24) = w11 at *
        obtain ⟨y0, y1, -⟩ := cells2 ((B11.out.block _ (heap_lt Nt.out)).trans Nt.out)
        go_wp2
        clear y0 y1
        go_loopw [54] (fun i wq => ∃ (j : Nat) (s : T), i = .int .i64 j ∧ j ≤ pos.length ∧ CD wq wt.heap.size s ∧ (∀ M, s.ev (bitsF M) = posB M (pos.take j)) ∧ Below wt.heap.size wt wq) (fun i _ => pos.length - (intOf i).toNat)
        case atStart => exact ⟨0, _, rfl, by omega, H11.out, fun M => rfl, B11.out⟩
        clear H11 B11
        case round =>
          obtain ⟨j, s, rfl, hj, hc, hev2, hbq⟩ := hrel
          have Hc := Lib.hid hc; have Hev2 := Lib.hid hev2; have Hbq := Lib.hid hbq
          clear hc hev2 hbq
          by_cases hjl : j < pos.length
          · obtain ⟨ab, off, rfl, hab, hz⟩ := (Hqt1.out.below Hbq.out).2 (by omega)
            have z0 := hz j (.int .i64 pos[j]) (by simp [ic, hjl])
            obtain ⟨q1, q2⟩ := Ok1.out j hjl
            have hpt := fun M n (hx : pos[j] = ((n : Nat) : Int)) => posB_take M pos j n hjl hx
            generalize pos[j] = x at *
            obtain ⟨l, rfl⟩ : ∃ l : Nat, x = (l : Int) := ⟨x.toNat, by omega⟩
            have hpt2 := fun M => hpt M l rfl
            have hl12 : l < 12 := by omega
            have Hpt := Lib.hid hpt2
            clear hpt hpt2 hz
            obtain ⟨s2, os2, es2⟩ := and_tree Hc.out.ok (litT_ok hl12)
            have Hlit := Lib.hid (fun w => literal_any l hl12 w)
            have Es2 := Lib.hid es2; clear es2
            go_upto_region 20 with (go_at_call 26; refine (Hlit.out _).mono ?_; rintro e wl ⟨vl, rfl, dl, bl⟩; obtain ⟨pl, nl, cl, rl, rfl⟩ := dl.opened; have Dl := Lib.hid dl; have Bl := Lib.hid bl; clear dl bl)
            have b14 : Below wl.heap.size wl (wl.alloc (.cells #[.slice pl nl cl, .int .i64 rl] 24)) := (Below.refl _ _).alloc (Nat.le_refl _) _
            have hn14 := heap_alloc_new wl (.cells #[.slice pl nl cl, .int .i64 rl] 24)
            have D14 := Lib.hid (Dl.out.below b14)
            have Hcm := Lib.hid (Hc.out.below (Bl.out.step b14))
            have Hbm := Lib.hid (Hbq.out.step (Bl.out.step b14))
            clear Dl Bl b14 z0
            generalize wl.alloc (.cells #[.slice pl nl cl, .int .i64 rl] 24) = wm at *
            obtain ⟨p3, n3, c3, r3, hrow, hds⟩ := Hcm.out
            obtain ⟨y0, y1, -⟩ := cells2 hrow
            obtain ⟨y2, y3, -⟩ := cells2 hn14
            have hand := andD_any _ _ s (litT l) s2 _ hds D14.out os2 Es2.out
            have Hand := Lib.hid hand; have Hrow := Lib.hid hrow
            clear hand hrow hn14 hds
            go_wp2_with (first
              | (go_at_call 13; refine Hand.out.mono ?_; rintro e wn ⟨vn, rfl, dn, bn⟩; obtain ⟨pn, nn, cn, rn, rfl⟩ := dn.opened; have Dn := Lib.hid dn; have Bn := Lib.hid bn; have Hrn := Lib.hid ((bn.block _ (heap_lt Hrow.out)).trans Hrow.out); clear dn bn)
              | (with_reducible refine wpList_store_row rfl 24 (.tmp 11) (.tmp 65) rfl _ _ rfl rfl _ _ Hrn.out (by kernel_rfl) (by kernel_rfl) (by kernel_rfl) ?_))
            exact ⟨⟨j + 1, s2, by go_num, by omega, CD.put Dn.out Hrn.out, fun M => by rw [Es2.out, Hev2.out, Hpt.out, litT_ev]; rfl, below_setRow (Hbm.out.step Bn.out) (Nat.le_refl _)⟩, by simp [intOf]; omega⟩
          · obtain rfl : j = pos.length := by omega
            have hpe : ∀ M, s.ev (bitsF M) = posB M pos := fun M => by rw [Hev2.out M, List.take_length]
            have Hpe := Lib.hid hpe
            obtain ⟨y0, y1, -⟩ := cells2 ((Hbq.out.block _ (heap_lt Nt.out)).trans Nt.out)
            clear hpe Hev2
            go_wp2
            clear y0 y1
            go_loopw [70] (fun i wq => ∃ (j : Nat) (s2 : T), i = .int .i64 j ∧ j ≤ neg.length ∧ CD wq wt.heap.size s2 ∧ (∀ M, s2.ev (bitsF M) = (posB M pos && negB M (neg.take j))) ∧ Below wt.heap.size wt wq) (fun i _ => neg.length - (intOf i).toNat)
            case atStart => exact ⟨0, _, rfl, by omega, Hc.out, fun M => by rw [Hpe.out M]; simp [negB], Hbq.out⟩
            clear Hc Hpe Hbq
            case round =>
              obtain ⟨j, s, rfl, hj, hc, hev2, hbq⟩ := hrel
              have Hc := Lib.hid hc; have Hev2 := Lib.hid hev2; have Hbq := Lib.hid hbq
              clear hc hev2 hbq
              by_cases hjl : j < neg.length
              · obtain ⟨ab, off, rfl, hab, hz⟩ := (Hqt2.out.below Hbq.out).2 (by omega)
                have z0 := hz j (.int .i64 neg[j]) (by simp [ic, hjl])
                obtain ⟨q1, q2⟩ := Ok2.out j hjl
                have hpt := fun M n (hx : neg[j] = ((n : Nat) : Int)) => negB_take M neg j n hjl hx
                generalize neg[j] = x at *
                obtain ⟨l, rfl⟩ : ∃ l : Nat, x = (l : Int) := ⟨x.toNat, by omega⟩
                have hpt2 := fun M => hpt M l rfl
                have hl12 : l < 12 := by omega
                have Hpt := Lib.hid hpt2
                clear hpt hpt2 hz
                obtain ⟨nl', onl, enl⟩ := not_tree (litT_ok hl12)
                obtain ⟨s2, os2, es2⟩ := and_tree Hc.out.ok onl
                have Hlit := Lib.hid (fun w => literal_any l hl12 w)
                have Es2 := Lib.hid es2; have Enl := Lib.hid enl; clear es2 enl
                go_upto_region 26 with (go_at_call 26; refine (Hlit.out _).mono ?_; rintro e wl ⟨vl, rfl, dl, bl⟩; obtain ⟨pl, nl, cl, rl, rfl⟩ := dl.opened; have Dl := Lib.hid dl; have Bl := Lib.hid bl; clear dl bl)
                have b14 : Below wl.heap.size wl (wl.alloc (.cells #[.slice pl nl cl, .int .i64 rl] 24)) := (Below.refl _ _).alloc (Nat.le_refl _) _
                have hn14 := heap_alloc_new wl (.cells #[.slice pl nl cl, .int .i64 rl] 24)
                have D14 := Lib.hid (Dl.out.below b14)
                have Hcm := Lib.hid (Hc.out.below (Bl.out.step b14))
                have Hbm := Lib.hid (Hbq.out.step (Bl.out.step b14))
                clear Dl Bl b14 z0
                generalize wl.alloc (.cells #[.slice pl nl cl, .int .i64 rl] 24) = wm at *
                generalize wl.heap.size = g18 at *
                obtain ⟨p3, n3, c3, r3, hrow, hds⟩ := Hcm.out
                have Hds := Lib.hid hds
                have Hra := Lib.hid hrow; have Hrl := Lib.hid hn14
                clear hrow hn14 hds
                have Y0a := Lib.hid (show wm.drew.cell? ⟨wt.heap.size, 0, none⟩ = _ from (cells2 Hra.out).1)
                have La := Lib.hid (show wt.heap.size < wm.drew.heap.size from heap_lt Hra.out)
                have Ra := Lib.hid (show wm.drew.heap[wt.heap.size]? = _ from Hra.out)
                have Y0l := Lib.hid (show wm.drew.cell? ⟨g18, 0, none⟩ = _ from (cells2 Hrl.out).1)
                have Ll := Lib.hid (show g18 < wm.drew.heap.size from heap_lt Hrl.out)
                have Rl := Lib.hid (show wm.drew.heap[g18]? = _ from Hrl.out)
                have B0 := Lib.hid (show Below wm.heap.size wm wm.drew from (Below.refl _ _).drew)
                obtain ⟨z0a, z1a, -⟩ := cells2 Hra.out
                obtain ⟨z0l, z1l, -⟩ := cells2 Hrl.out
                go_wp2_with (first
                  | ((with_reducible refine Lex.at_finK ?_); refine LexK.finE_on (by kernel_rfl) (by repeat first | exact LexK.finL_nil | refine LexK.finL_none rfl ?_ | refine LexK.finL_skip (by decide +kernel) ?_ | refine LexK.finL_take rfl La.out Y0a.out ?_ | refine LexK.finL_take rfl Ll.out Y0l.out ?_) ?_)
                  | ((with_reducible refine Lex.at_region ?_); refine LexK.wp_region_lexE (fun x => x < wm.drew.heap.size) (by kernel_rfl) (by decide +kernel) ?_)
                  | ((with_reducible refine Lex.at_wpX ?_); with_reducible refine LexK.wpX_plain (by decide +kernel) ?_)
                  | ((with_reducible refine Lex.at_wpX ?_); with_reducible refine LexK.wpX_call ?_)
                  | ((with_reducible refine Lex.at_wpX ?_); with_reducible refine LexK.wpX_nil ?_)
                  | ((with_reducible refine Lex.at_ext ?_); with_reducible refine LexK.ext_on Hext.out ?_)
                  | (go_at_call 16; ((with_reducible refine (notD_any _ (litT l) nl' _ (D14.out.below B0.out) onl Enl.out).mono ?_); rintro e x0 ⟨v0, rfl, d, q⟩;  have Hd0 := Lib.hid d; have Hext := Lib.hid (LexK.Ext.of_below (Kp := fun x => x < wm.drew.heap.size) q (Nat.le_refl _)); have B1 := Lib.hid (B0.out.step q); have q0 : Below wm.drew.heap.size wm.drew x0 := q; have Q0 := Lib.hid q0; obtain ⟨u0a, t0a, -⟩ := cells2 ((q0.block _ La.out).trans Ra.out); obtain ⟨u0l, t0l, -⟩ := cells2 ((q0.block _ Ll.out).trans Rl.out); clear d q q0))
                  | (go_at_call 13; ((with_reducible refine (andD_any _ _ s nl' s2 _ (Hds.out.below B1.out) Hd0.out os2 Es2.out).mono ?_); rintro e x1 ⟨v1, rfl, d, q⟩; have Hd0 := Lib.hid (Hd0.out.below q); obtain ⟨pn, nn, cn, rn, rfl⟩ := d.opened; have Hd1 := Lib.hid d; have Hrz := Lib.hid ((q.block _ (Nat.lt_of_lt_of_le La.out Q0.out.size)).trans ((Q0.out.block _ La.out).trans Ra.out)); have Hext := Lib.hid (LexK.Ext.of_below (Kp := fun x => x < wm.drew.heap.size) q (Nat.le_refl _)); have B2 := Lib.hid (B1.out.step q); have q0 : Below wm.drew.heap.size wm.drew x1 := Q0.out.trans (q.mono Q0.out.size); have Q1 := Lib.hid q0; obtain ⟨u1a, t1a, -⟩ := cells2 ((q0.block _ La.out).trans Ra.out); obtain ⟨u1l, t1l, -⟩ := cells2 ((q0.block _ Ll.out).trans Rl.out); clear d q q0))
                  | (with_reducible refine wpList_store_row rfl 24 (.tmp 11) (.tmp 82) rfl _ _ rfl rfl _ _ Hrz.out (by kernel_rfl) (by kernel_rfl) (by kernel_rfl) ?_))
                exact ⟨⟨j + 1, s2, by go_num, by omega, CD.put Hd1.out (Hrz.out), fun M => by rw [Es2.out, Hev2.out, Hpt.out, Enl.out, litT_ev, Bool.and_assoc]; rfl, below_setRow (Hbm.out.step B2.out) (Nat.le_refl _)⟩, by simp [intOf]; omega⟩
              · obtain rfl : j = neg.length := by omega
                obtain ⟨t2, ot2, et2⟩ := or_tree H8t.out.ok Hc.out.ok
                have Et2 := Lib.hid et2; clear et2
                obtain ⟨p3, n3, c3, r3, hrow, hds⟩ := Hc.out
                obtain ⟨p8, n8, c8, r8, hrow8, hd8⟩ := H8t.out.below Hbq.out
                obtain ⟨y0, y1, -⟩ := cells2 hrow
                obtain ⟨y2, y3, -⟩ := cells2 hrow8
                have hor := orD_any _ _ t s t2 _ hd8 hds ot2 Et2.out
                have Hor := Lib.hid hor; have Hrow8 := Lib.hid hrow8
                clear hor hrow hrow8 hds hd8
                go_wp2_with (first
                  | (go_at_call 14; refine Hor.out.mono ?_; rintro e wn ⟨vn, rfl, dn, bn⟩; obtain ⟨pn, nn, cn, rn, rfl⟩ := dn.opened; have Dn := Lib.hid dn; have Bn := Lib.hid bn; have Hrn := Lib.hid ((bn.block _ (heap_lt Hrow8.out)).trans Hrow8.out); clear dn bn)
                  | (with_reducible refine wpList_store_row rfl 24 (.tmp 8) (.tmp 86) rfl _ _ rfl rfl _ _ Hrn.out (by kernel_rfl) (by kernel_rfl) (by kernel_rfl) ?_))
                have hbn := Hbt.out.step (Hbq.out.step Bn.out)
                refine ⟨⟨k + 1, t2, by go_num, by omega, CD.put Dn.out Hrn.out, fun M => ?_, ?_, below_setRow hbn (Nat.le_of_lt hg8)⟩, by simp [intOf]; omega⟩
                · rw [Et2.out, Hev.out, Htk.out, Hev2.out, List.take_length]; rfl
                · exact (setRow_other _ _ _ _ (by omega)).trans (((Hbq.out.step Bn.out).block _ (heap_lt Hrt.out)).trans Hrt.out)
end Go.Proofs.Ytkppcibffbnhoaa
