/-
  Walks: the reference's OfPaths.
-/
import Derived.Test.YtkppcibffbnhoaaG8
namespace Go.Proofs.Ytkppcibffbnhoaa
open Go.RowKit
set_option maxRecDepth 100000

def okP (ps : List IP) : Prop := ∀ k (h : k < ps.length), litsI (ps[k]).1 ∧ litsI (ps[k]).2
/-- What OfPaths answers. -/
def OR (ps : List IP) (w : World) (e : Ending) (w' : World) : Prop :=
  (¬ okP ps ∧ e = .returned (.tuple #[.agg #[.slice none 0 0, .int .i64 0], .bool false]) ∧ Below w.heap.size w w') ∨
  (okP ps ∧ ∃ v t, e = .returned (.tuple #[v, .bool true]) ∧ DV w' v t ∧ (∀ M, M < 4096 → t.ev (bitsF M) = ps.any (holdsP M)) ∧ Below w.heap.size w w')
theorem ext_low {B : Nat} {w w' : World} (h : Below B w w') : LexK.Ext (fun x => x < B) w w' := ⟨h.size, fun b _ hk => h.block b hk⟩
theorem ic_app (xs ys : List Int) : ic (xs ++ ys) = ic xs ++ ic ys := by simp [ic]
theorem litsI_app {xs ys : List Int} : litsI (xs ++ ys) ↔ litsI xs ∧ litsI ys := by
  constructor
  · intro h
    refine ⟨fun k hk => ?_, fun k hk => ?_⟩
    · have := h k (by rw [List.length_append]; omega)
      rwa [List.getElem_append_left hk] at this
    · have := h (xs.length + k) (by rw [List.length_append]; omega)
      rw [List.getElem_append_right (by omega)] at this
      simpa using this
  · rintro ⟨h1, h2⟩ k hk
    rcases Nat.lt_or_ge k xs.length with hl | hl
    · rw [List.getElem_append_left hl]; exact h1 k hl
    · rw [List.getElem_append_right hl]; exact h2 _ _

set_option maxHeartbeats 16000000 in
theorem ofpaths_any (P : Option Addr) (n cp : Nat) (ps : List IP) (w : World) (h : PS w P n ps) (hn : ps.length ≤ 1000) (hl : ∀ k (h : k < ps.length), (ps[k]).1.length ≤ 1000 ∧ (ps[k]).2.length ≤ 1000) :
    Calls Try.prog 24 #[.slice P n cp] w (OR ps w) := by
  obtain rfl := h.len
  have hal := (Below.refl w.heap.size w).alloc (Nat.le_refl _) (.cells #[.slice none 0 0, .int .i64 0] 24)
  have hr0 := heap_alloc_new w (.cells #[.slice none 0 0, .int .i64 0] 24)
  have hmk := make_table
  have H := Lib.hid h; clear h
  have HL := Lib.hid hl; clear hl
  go_enter Try.func24, Try.ntmps24
  go_upto_region 1 with fail
  have Hal := Lib.hid hal; have Hr0 := Lib.hid hr0; clear hal hr0
  generalize w.alloc (.cells #[.slice none 0 0, .int .i64 0] 24) = w1 at *
  go_wp2
  go_loopw [4] (fun i wr => ∃ k : Nat, i = .int .i64 k ∧ k ≤ ps.length ∧ (∀ i (hi : i < ps.length), i < k → litsI (ps[i]).1 ∧ litsI (ps[i]).2) ∧ wr.heap[w.heap.size]? = some (.cells #[.slice none 0 0, .int .i64 0] 24) ∧ Below w.heap.size w wr) (fun i _ => ps.length - (intOf i).toNat)
  case atStart => exact ⟨0, rfl, by omega, fun i hi h0 => by omega, Hr0.out, Hal.out⟩
  clear Hal Hr0
  case round =>
    obtain ⟨k, rfl, hk, hall, hr0, hb⟩ := hrel
    have Hall := Lib.hid hall; have Hr0 := Lib.hid hr0; have Hb := Lib.hid hb
    clear hall hr0 hb
    have hps := H.out.below Hb.out
    by_cases hlt : k < ps.length
    · obtain ⟨a, o, v1, v2, rfl, ha, x0, x1, i1, i2⟩ := hps.at' k hlt
      obtain ⟨hl1, hl2⟩ := HL.out k hlt
      have hnx : litsI (ps[k]).1 ∧ litsI (ps[k]).2 → ∀ i (hi : i < ps.length), i < k + 1 → litsI (ps[i]).1 ∧ litsI (ps[i]).2 := fun h i hi hik => by
        rcases Nat.lt_succ_iff_lt_or_eq.1 hik with h1 | rfl
        · exact Hall.out i hi h1
        · exact h
      have hno : ¬ (litsI (ps[k]).1 ∧ litsI (ps[k]).2) → ¬ okP ps := fun h h2 => h (h2 k hlt)
      generalize ps[k] = x at *
      obtain ⟨pos, neg⟩ := x
      dsimp only at i1 i2 hl1 hl2 hnx hno
      rw [← litsI_app] at hnx hno
      obtain ⟨p1, c1, rfl, hc1, hq1⟩ := i1
      obtain ⟨p2, c2, rfl, hc2, hq2⟩ := i2
      have Hq1 := Lib.hid hq1; have Hq2 := Lib.hid hq2
      have Hnx := Lib.hid hnx; have Hno := Lib.hid hno
      have Y0 := Lib.hid (show wr.drew.cell? ⟨a, o + k * 2, none⟩ = _ from x0)
      have Y1 := Lib.hid (show wr.drew.cell? ⟨a, o + k * 2 + 1, none⟩ = _ from x1)
      have La := Lib.hid (show a < wr.drew.heap.size from ha)
      clear hq1 hq2 hnx hno hps
      have hb1 : 0 + pos.length ≤ 67108864 := by omega
      have hb2 : 0 + pos.length + neg.length ≤ 67108864 := by omega
      have hzr : wr.drew.heap.size ≤ wr.drew.heap.size := Nat.le_refl _
      go_upto_region 5 with (first
        | ((with_reducible refine Lex.at_finK ?_); refine LexK.finE_on (by kernel_rfl) (by repeat first | exact LexK.finL_nil | refine LexK.finL_none rfl ?_ | refine LexK.finL_skip (by decide +kernel) ?_ | refine LexK.finL_take rfl La.out Y0.out ?_ | refine LexK.finL_take rfl La.out Y1.out ?_) ?_)
        | ((with_reducible refine Lex.at_region ?_); refine LexK.wp_region_lexE (fun x => x < wr.drew.heap.size) (by kernel_rfl) (by decide +kernel) ?_)
        | ((with_reducible refine Lex.at_wpX ?_); with_reducible refine LexK.wpX_plain (by decide +kernel) ?_)
        | ((with_reducible refine Lex.at_wpX ?_); with_reducible refine LexK.wpX_call ?_)
        | ((with_reducible refine Lex.at_wpX ?_); with_reducible refine LexK.wpX_nil ?_)
        | ((with_reducible refine Lex.at_ext ?_); with_reducible refine LexK.ext_on (ext_low Hbe.out) ?_)
        | (at_builtin; refine wpList_append_ownrc rfl (.const (.slice none 0 0)) (.tmp 20) 44 rfl 3 (by kernel_rfl) int_info rfl (by decide) (by decide) wr.drew.heap.size _ p1 0 pos.length c1 [] (ic pos) hzr (.slice none 0 0) rfl rfl (World.ownsRow_nil _ _ _ _) Hq1.out (ic_one _) hb1 ?_; intro v3 w3 ho3 hf3; have Ho3 := Lib.hid ho3; have Hbe := Lib.hid (hf3.below hzr (by simp) (by simp [Value.ownBlock])); obtain ⟨x30, x31⟩ := (show w3.cell? ⟨a, o + k * 2, none⟩ = _ ∧ w3.cell? ⟨a, o + k * 2 + 1, none⟩ = _ from ⟨(Hbe.out.cell (p := ⟨a, _, none⟩) La.out).trans x0, (Hbe.out.cell (p := ⟨a, _, none⟩) La.out).trans x1⟩); have Hq23 := Lib.hid (Hq2.out.below (below_drew0 Hbe.out)); have Hb3 := Lib.hid Hbe.out; have hz3 := Hbe.out.size; clear ho3 hf3)
        | (at_builtin; refine wpList_append_ownrc rfl (.tmp 21) (.tmp 26) 44 rfl 3 (by kernel_rfl) int_info rfl (by decide) (by decide) wr.drew.heap.size _ p2 (0 + pos.length) neg.length c2 ([] ++ ic pos) (ic neg) hz3 v3 rfl rfl Ho3.out Hq23.out (ic_one _) hb2 ?_; intro v4 w4 ho4 hf4; have Ho4 := Lib.hid ho4; have Hbe := Lib.hid (hf4.below hz3 (by simp) (fun g hg => (Ho3.out.lt g hg).1)); have Hb4 := Lib.hid (Hb3.out.trans Hbe.out); clear ho4 hf4))
      obtain ⟨p4, c4, rfl⟩ := own_slice Ho4.out
      have hr4 := RC.of_own Ho4.out
      have hlen : 0 + pos.length + neg.length = (pos ++ neg).length := by rw [List.length_append]; omega
      rw [List.nil_append, ← ic_app, hlen] at hr4
      rw [hlen]
      have hr04 := (Hb4.out.block _ (show w.heap.size < wr.drew.heap.size from heap_lt Hr0.out)).trans (show wr.drew.heap[w.heap.size]? = _ from Hr0.out)
      have Hr04 := Lib.hid hr04
      have Hb04 := Lib.hid (Hb.out.trans ((below_drew0 Hb4.out).mono Hb.out.size))
      have hxl : (pos ++ neg).length ≤ 2000 := by rw [List.length_append]; omega
      have Hr4 := Lib.hid hr4
      clear hr4 hlen hr04 Ho4 Hb4 Hb3 Hbe hz3 x30 x31 Hq23 Hq1 Hq2 Y0 Y1 Ho3 hb1 hb2 hzr La
      generalize pos ++ neg = xs at *
      go_wp2
      go_loop [6] (fun i => ∃ j : Nat, i = .int .i64 j ∧ j ≤ xs.length ∧ (∀ i (hi : i < xs.length), i < j → 0 ≤ xs[i] ∧ xs[i] < 12)) (fun i => xs.length - (intOf i).toNat)
      case atStart => exact ⟨0, rfl, by omega, fun i hi h0 => by omega⟩
      case round =>
        obtain ⟨j, rfl, hj, hall⟩ := hrel
        have Hal2 := Lib.hid hall; clear hall
        by_cases hjl : j < xs.length
        · obtain ⟨ab, off, rfl, hab, hz⟩ := Hr4.out.2 (by omega)
          have z0 := hz j (.int .i64 xs[j]) (by simp [ic, hjl])
          have hnx2 : 0 ≤ xs[j] ∧ xs[j] < 12 → ∀ i (hi : i < xs.length), i < j + 1 → 0 ≤ xs[i] ∧ xs[i] < 12 := fun h i hi hik => by
            rcases Nat.lt_succ_iff_lt_or_eq.1 hik with h1 | rfl
            · exact Hal2.out i hi h1
            · exact h
          have hno2 : ¬ (0 ≤ xs[j] ∧ xs[j] < 12) → ¬ okP ps := fun h => Hno.out fun h2 => h (h2 j hjl)
          generalize xs[j] = x at *
          have Hnx2 := Lib.hid hnx2; have Hno2 := Lib.hid hno2; clear hnx2 hno2 hz
          by_cases g1 : 0 ≤ x
          case neg =>
            have f1 : decide (x < 0) = true := by simp; omega
            have Hn := Lib.hid (Hno2.out (by omega))
            go_wp2_with (first
              | (with_reducible refine wpList_store_row rfl 24 (.tmp 2) (.tmp 46) rfl _ _ rfl rfl _ _ Hr04.out (by kernel_rfl) (by kernel_rfl) (by kernel_rfl) ?_))
            refine bodyPost_ret (run_results_cell_tmp rfl _ _ w.heap.size 24 _ (0, 0) _ rfl (setRow_heap _ _ _ _ _ _ Hr04.out) rfl rfl (by kernel_rfl)) rfl ?_
            exact .inl ⟨Hn.out, rfl, below_setRow Hb04.out (Nat.le_refl _)⟩
          have f1 : decide (x < 0) = false := by simp; omega
          by_cases g2 : x < 12
          case neg =>
            have f2 : decide (12 ≤ x) = true := by simp; omega
            have Hn := Lib.hid (Hno2.out (by omega))
            go_wp2_with (first
              | (with_reducible refine wpList_store_row rfl 24 (.tmp 2) (.tmp 46) rfl _ _ rfl rfl _ _ Hr04.out (by kernel_rfl) (by kernel_rfl) (by kernel_rfl) ?_))
            refine bodyPost_ret (run_results_cell_tmp rfl _ _ w.heap.size 24 _ (0, 0) _ rfl (setRow_heap _ _ _ _ _ _ Hr04.out) rfl rfl (by kernel_rfl)) rfl ?_
            exact .inl ⟨Hn.out, rfl, below_setRow Hb04.out (Nat.le_refl _)⟩
          have f2 : decide (12 ≤ x) = false := by simp; omega
          have Hn := Lib.hid (Hnx2.out ⟨g1, g2⟩)
          go_wp2
          exact ⟨⟨j + 1, by go_num, by omega, Hn.out⟩, by simp [intOf]; omega⟩
        · obtain rfl : j = xs.length := by omega
          have Hn := Lib.hid (Hnx.out fun i hi => Hal2.out i hi hi)
          go_wp2
          exact ⟨⟨k + 1, by go_num, by omega, Hn.out, Hr04.out, Hb04.out⟩, by simp [intOf]; omega⟩
    · obtain rfl : k = ps.length := by omega
      have hok : okP ps := fun i hi => Hall.out i hi hi
      have Hok := Lib.hid hok
      clear hok Hall hps
      have htb := TB.made wr
      have hal := (Below.refl wr.heap.size wr).alloc (Nat.le_refl _) (.cells (madeCells #[.bool false] 4096) 4)
      have hr1 := (hal.block _ (heap_lt Hr0.out)).trans Hr0.out
      have hb1 := Hb.out.step hal
      have hzl := heap_lt Hr0.out
      go_wp2
      have Htb := Lib.hid htb; have Hr1 := Lib.hid hr1; have Hb1 := Lib.hid hb1
      clear htb hal hr1 hb1 Hr0 Hb hmk
      generalize wr.alloc (.cells (madeCells #[.bool false] 4096) 4) = ws at *
      generalize wr.heap.size = bt at *
      go_loopw [8] (fun i wq => ∃ (k : Nat) (g : Nat → Bool), i = .int .i64 k ∧ k ≤ 4096 ∧ TB wq bt g ∧ (∀ m, m < k → g m = ps.any (holdsP m)) ∧ (∀ m, k ≤ m → g m = false) ∧ wq.heap[w.heap.size]? = some (.cells #[.slice none 0 0, .int .i64 0] 24) ∧ Below w.heap.size w wq) (fun i _ => 4096 - (intOf i).toNat)
      case atStart => exact ⟨0, _, rfl, by omega, Htb.out, fun m hm => by omega, fun _ _ => rfl, Hr1.out, Hb1.out⟩
      clear Htb Hr1 Hb1
      case round =>
        obtain ⟨k, g, rfl, hk, htb, hg1, hg2, hr1, hb1⟩ := hrel
        have Htb := Lib.hid htb; have Hg1 := Lib.hid hg1; have Hg2 := Lib.hid hg2; have Hr1 := Lib.hid hr1; have Hb1 := Lib.hid hb1
        clear htb hg1 hg2 hr1 hb1
        by_cases hkl : k < 4096
        · have fk : decide ((k : Int) < 4096) = true := by simp; omega
          go_wp2
          go_loopw [9] (fun i wq => ∃ (j : Nat) (g2 : Nat → Bool), i = .int .i64 j ∧ j ≤ ps.length ∧ TB wq bt g2 ∧ (∀ m, m ≠ k → g2 m = g m) ∧ g2 k = (ps.take j).any (holdsP k) ∧ wq.heap[w.heap.size]? = some (.cells #[.slice none 0 0, .int .i64 0] 24) ∧ Below w.heap.size w wq) (fun i _ => ps.length - (intOf i).toNat)
          case atStart => exact ⟨0, g, rfl, by omega, Htb.out, fun m hm => rfl, by rw [Hg2.out k (Nat.le_refl _)]; rfl, Hr1.out, Hb1.out⟩
          clear Htb Hr1 Hb1
          case round =>
            obtain ⟨j, g2, rfl, hj, htb, hq1, hq2, hr1, hb1⟩ := hrel
            have Htb := Lib.hid htb; have Hq1 := Lib.hid hq1; have Hq2 := Lib.hid hq2; have Hr1 := Lib.hid hr1; have Hb1 := Lib.hid hb1
            clear htb hq1 hq2 hr1 hb1
            by_cases hjl : j < ps.length
            · have hps := H.out.below Hb1.out
              obtain ⟨a, o, v1, v2, rfl, ha, x0, x1, i1, i2⟩ := hps.at' j hjl
              obtain ⟨hl1, hl2⟩ := HL.out j hjl
              obtain ⟨ok1, ok2⟩ := Hok.out j hjl
              have htk : (ps.take (j + 1)).any (holdsP k) = ((ps.take j).any (holdsP k) || holdsP k ps[j]) := by rw [List.take_succ_eq_append_getElem hjl, List.any_append]; simp
              have hh := holds_any v1 v2 (ps[j]).1 (ps[j]).2 k (by omega) _ i1 i2 ok1 ok2 (by omega) (by omega)
              have e0 : holdsP k ((ps[j]).1, (ps[j]).2) = holdsP k ps[j] := rfl
              rw [e0] at hh
              generalize holdsP k ps[j] = b at *
              clear e0 ok1 ok2 hl1 hl2 i1 i2 hps
              have Htk := Lib.hid htk; clear htk
              have hc0 := Htb.out.cell hkl
              have hz0 := Htb.out.free k
              cases hb : g2 k with
              | true =>
                rw [hb] at hc0
                have HB := Lib.hid hb; clear hb
                go_wp2
                obtain ⟨ht5, hU⟩ := Htb.out.set hkl true
                refine ⟨⟨j + 1, _, by go_num, by omega, ht5, ?_, ?_, (hU.other _ (by omega)).trans Hr1.out, Hb1.out.trans (hU.below (by omega))⟩, by simp [intOf]; omega⟩
                · intro m hm; rw [if_neg hm]; exact Hq1.out m hm
                · rw [if_pos rfl, Htk.out, ← Hq2.out, HB.out]; rfl
              | false =>
                rw [hb] at hc0
                have HB := Lib.hid hb; clear hb
                go_wp2_with (go_at_call 48; refine hh.mono ?_; rintro e w5 ⟨rfl, hb5⟩; have Hb5 := Lib.hid hb5; have Htb5 := Lib.hid (show TB w5 bt g2 from by (obtain ⟨tc, t1, t2⟩ := Htb.out.ex; exact Htb.out.at (hb5.block _ (heap_lt t1)))); have hc5 := Htb5.out.cell hkl; have hz5 := Htb5.out.free k; have Hr5 := Lib.hid ((hb5.block _ (heap_lt Hr1.out)).trans Hr1.out); clear hb5)
                obtain ⟨ht5, hU⟩ := Htb5.out.set hkl b
                refine ⟨⟨j + 1, _, by go_num, by omega, ht5, ?_, ?_, (hU.other _ (by omega)).trans Hr5.out, (Hb1.out.step Hb5.out).trans (hU.below (by omega))⟩, by simp [intOf]; omega⟩
                · intro m hm; rw [if_neg hm]; exact Hq1.out m hm
                · rw [if_pos rfl, Htk.out, ← Hq2.out, HB.out]; rfl
            · obtain rfl : j = ps.length := by omega
              go_wp2
              refine ⟨⟨k + 1, g2, by go_num, by omega, Htb.out, ?_, ?_, Hr1.out, Hb1.out⟩, by simp [intOf]; omega⟩
              · intro m hm
                by_cases e : m = k
                · subst e; rw [Hq2.out, List.take_length]
                · rw [Hq1.out m e]; exact Hg1.out m (by omega)
              · intro m hm; rw [Hq1.out m (by omega)]; exact Hg2.out m (by omega)
        · obtain rfl : k = 4096 := by omega
          obtain ⟨t, ot, ht, hof⟩ := oftable_any bt g _ Htb.out
          have hev : ∀ M, M < 4096 → t.ev (bitsF M) = ps.any (holdsP M) := fun M hM => by rw [ht M hM]; exact Hg1.out M hM
          have Hev := Lib.hid hev; have Hof := Lib.hid hof
          clear hev hof ht ot
          go_wp2_with (first
            | (go_at_call 37; refine Hof.out.mono ?_; rintro e w5 ⟨dv, rfl, hdv, hb5⟩; obtain ⟨p5, k5, rfl, -⟩ := id hdv.dd.ex; have Hdv := Lib.hid hdv; have Hr5 := Lib.hid ((hb5.block _ (heap_lt Hr1.out)).trans Hr1.out); have Hb5 := Lib.hid (Hb1.out.step hb5); clear hdv hb5)
            | (with_reducible refine wpList_store_row rfl 24 (.tmp 2) (.tmp 74) rfl _ _ rfl rfl _ _ Hr5.out (by kernel_rfl) (by kernel_rfl) (by kernel_rfl) ?_))
          refine bodyPost_ret (run_results_cell_tmp rfl _ _ w.heap.size 24 _ (0, 0) _ rfl (setRow_heap _ _ _ _ _ _ Hr5.out) rfl rfl (by kernel_rfl)) rfl ?_
          exact .inr ⟨Hok.out, _, t, rfl, Hdv.out.setRow Hr5.out, Hev.out, below_setRow Hb5.out (Nat.le_refl _)⟩
end Go.Proofs.Ytkppcibffbnhoaa
