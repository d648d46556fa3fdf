/-
  Walks: a node is met.
-/
import Derived.Test.YteejlibiidiibaaF0
namespace Go.Proofs.Yteejlibiidiibaa
open Go.RowKit
set_option maxRecDepth 100000
theorem FM.setCnt' {c : FP} {s : TS} {ov gv : Value} {w : World} (h : FM c s ov gv w) (x : Nat) {y : Int} (hy : y = (x : Int)) :
    FM c { s with cnt := x } ov gv (w.setCell ⟨c.cb, 0, none⟩ (.int .i64 y)) ∧ Tch c.cb w (w.setCell ⟨c.cb, 0, none⟩ (.int .i64 y)) := by subst hy; exact h.setCnt x
theorem FM.setNum' {c : FP} {s : TS} {ov gv : Value} {w : World} (h : FM c s ov gv w) {k : Nat} (hk : k < c.n) (x : Nat) {y : Int} (hy : y = (x : Int)) :
    FM c { s with num := upN s.num k x } ov gv (w.setCell ⟨c.nb, k, none⟩ (.int .i64 y)) ∧ Tch c.nb w (w.setCell ⟨c.nb, k, none⟩ (.int .i64 y)) := by subst hy; exact h.setNum hk x
theorem FM.setLow' {c : FP} {s : TS} {ov gv : Value} {w : World} (h : FM c s ov gv w) {k : Nat} (hk : k < c.n) (x : Nat) {y : Int} (hy : y = (x : Int)) :
    FM c { s with low := upN s.low k x } ov gv (w.setCell ⟨c.lb, k, none⟩ (.int .i64 y)) ∧ Tch c.lb w (w.setCell ⟨c.lb, k, none⟩ (.int .i64 y)) := by subst hy; exact h.setLow hk x
theorem cells6 {w : World} {b : Nat} {v0 v1 v2 v3 v4 v5 : Value} {t : TypeId} (h : w.heap[b]? = some (.cells #[v0, v1, v2, v3, v4, v5] t)) :
    (w.cell? ⟨b, 0, none⟩ = some v0 ∧ w.cell? ⟨b, 1, none⟩ = some v1 ∧ w.cell? ⟨b, 2, none⟩ = some v2) ∧ (w.cell? ⟨b, 3, none⟩ = some v3 ∧ w.cell? ⟨b, 4, none⟩ = some v4 ∧ w.cell? ⟨b, 5, none⟩ = some v5) ∧ ∀ i, w.frozen? ⟨b, i, none⟩ = false := by
  simp [World.cell?, World.frozen?, h]
/-- A node is put on the stack of open ones. -/
theorem FM.open' {c : FP} {s : TS} {ov ov' gv : Value} {w w1 w3 : World} {x : Int} (h : FM c s ov gv w) (h1 : w1 = w.alloc (.cells #[.int .i64 x] 3)) (h2 : Fr [] ov ov' w1 w3) (h3 : w3.ownsRow c.B 3 1 ov' (s.op.length + 1) (ic s.op ++ ic [x])) :
    FM c { s with op := s.op ++ [x] } ov' gv (w3.setCell ⟨c.fb, 4, none⟩ ov') ∧ KP c w (w3.setCell ⟨c.fb, 4, none⟩ ov') ∧ w3.heap[c.fb]? = w.heap[c.fb]? := by
  have hlt := heap_lt h.blk
  have hb1 : Below w.heap.size w w1 := h1 ▸ (Below.refl _ _).alloc (Nat.le_refl _) _
  have hs1 : w.heap.size ≤ w1.heap.size := hb1.size
  have F1 := h.grow hb1
  have hH : c.H ≤ w.heap.size := by have := h.ok.rfb.1; omega
  have hk : ∀ k, k < w1.heap.size → ov.ownBlock ≠ some k → w3.heap[k]? = w1.heap[k]? := fun k hk hne => h2.block k hk (by simp) hne
  have hov : ∀ g, ov.ownBlock = some g → c.B ≤ g := fun g hg => (h.own.lt g hg).1
  have hsm : ∀ k, k < c.B → k < w1.heap.size → w3.heap[k]? = w1.heap[k]? := fun k hk1 hk2 => hk k hk2 fun e => by have := hov k e; omega
  have hblk3 := (hsm _ h.ok.rfb.2 (heap_lt F1.blk)).trans F1.blk
  have hu : Upd c.fb (.cells #[.slice c.p c.n c.cp, .slice (some ⟨c.nb, 0, none⟩) c.n c.n, .slice (some ⟨c.lb, 0, none⟩) c.n c.n, .slice (some ⟨c.ob, 0, none⟩) c.n c.n, ov', gv] 57) w3 (w3.setCell ⟨c.fb, 4, none⟩ ov') :=
    Upd.cast (Upd.set (i := 4) (v := ov') (Upd.refl hblk3)) (by simp)
  have hown : w3.ownsRow c.B 3 1 ov' (s.op ++ [x]).length (ic (s.op ++ [x])) := by
    rw [List.length_append, show ic (s.op ++ [x]) = ic s.op ++ ic [x] by simp [ic]]
    exact h3
  have hB' : ∀ g, ov'.ownBlock = some g → g ≠ c.fb := fun g hg => by have := (h3.lt g hg).1; have := h.ok.rfb.2; omega
  refine ⟨⟨h.ok, by rw [hu.size]; exact Nat.le_trans h.sz (Nat.le_trans hs1 h2.size), hu.blk, (F1.num.at (hsm _ h.ok.rnb.2 F1.num.lt)).at (hu.other _ (Ne.symm h.ok.d1.1)), (F1.low.at (hsm _ h.ok.rlb.2 F1.low.lt)).at (hu.other _ (Ne.symm h.ok.d1.2.1)), (F1.of.at (hsm _ h.ok.rob.2 F1.of.lt)).at (hu.other _ (Ne.symm h.ok.d1.2.2.1)),
    (hu.other _ (Ne.symm h.ok.d1.2.2.2)).trans ((hsm _ h.ok.rcb.2 (heap_lt F1.cnt)).trans F1.cnt), ownsRow_at hown fun g hg => hu.other _ (hB' g hg), ?_⟩, ?_, ?_⟩
  · have hg1 := F1.grp.move (ov' := ov') (w' := w3) (fun k arr t hk1 hB ht => hk k (heap_lt hk1) fun e => by
      rcases ht with rfl | ht
      · obtain ⟨_, tc, h4⟩ := own_ty F1.own e
        rw [hk1] at h4; cases h4
      · exact ht e) (fun a ha hne e => by
      rcases h2.own with h4 | h4
      · rw [h4] at e; exact hne e
      · have := h4 a e; omega)
    exact hg1.move (fun k arr t _ hB _ => hu.other k (by have := h.ok.rfb.2; omega)) fun _ _ h => h
  · refine ((KP.of_below hb1 hH).trans (KP.of_fr h2 (by omega) fun g hg => ?_)).trans (KP.of_tch h.ok.rfb.1 ⟨_, hu⟩ (.inl rfl))
    obtain ⟨h4, tc, h5⟩ := own_ty F1.own hg
    exact ⟨by have := h.ok.rfb; omega, tc, 3, h5, .inl rfl⟩
  · exact hblk3.trans h.blk.symm
/-- How begin ends. -/
def BR (c : FP) (s : TS) (j : Nat) (gv : Value) (w : World) (e : Ending) (w' : World) : Prop := ∃ ov', e = .returned (.agg #[.int .i64 j, .int .i64 0]) ∧ FM c (s.begin' j) ov' gv w' ∧ KP c w w'
set_option maxHeartbeats 8000000 in
theorem begin_any (c : FP) (s : TS) (ov gv : Value) (vb vc j : Nat) (w : World) (h : FM c s ov gv w) (hvb : w.heap[vb]? = some (.cells #[.pointer (some ⟨c.fb, 0, none⟩)] 55)) (hvc : w.heap[vc]? = some (.cells #[.pointer (some ⟨c.cb, 0, none⟩)] 59)) (hj : j < c.n) (hcnt : s.cnt ≤ 1000000) (hop : s.op.length ≤ 1000000) :
    Calls Try.prog 41 #[.int .i64 j, .pointer (some ⟨vc, 0, none⟩), .pointer (some ⟨vb, 0, none⟩)] w (BR c s j gv w) := by
  have hn := h.ok.hn
  have H := Lib.hid h; have Hvb := Lib.hid hvb; have Hvc := Lib.hid hvc
  have Hlt := Lib.hid (heap_lt hvb); have Hltc := Lib.hid (heap_lt hvc)
  clear h hvb hvc
  have hB := (Below.refl w.heap.size w).alloc (Nat.le_refl _) (.cells #[.int .i64 0, .int .i64 0] 70)
  have hn1 := heap_alloc_new w (.cells #[.int .i64 0, .int .i64 0] 70)
  go_enter Try.func41, Try.ntmps41
  go_upto_region 1 with fail
  generalize w.alloc (.cells #[.int .i64 0, .int .i64 0] 70) = w1 at *
  have F1 := Lib.hid (H.out.grow hB)
  have hvb1 := (hB.block _ Hlt.out).trans Hvb.out
  have hvc1 := (hB.block _ Hltc.out).trans Hvc.out
  have y1 := one_cell hvc1
  have y2 := one_cell F1.out.cnt
  have y3 := one_free F1.out.cnt 0
  have F2 := Lib.hid (F1.out.setCnt' (s.cnt + 1) (y := (s.cnt : Int) + 1) (by omega))
  have HB := Lib.hid hB; have Hn1 := Lib.hid hn1; have Hvb1 := Lib.hid hvb1; have Hvc1 := Lib.hid hvc1
  clear hB hn1 hvb1 hvc1
  go_upto_region 2 with fail
  generalize w1.setCell ⟨c.cb, 0, none⟩ (.int .i64 ((s.cnt : Int) + 1)) = w2 at *
  have hH : c.H ≤ w.heap.size := by have := H.out.ok.rfb.1; have := heap_lt H.out.blk; omega
  have K2 := (KP.of_below (c := c) HB.out hH).trans (KP.of_tch H.out.ok.rcb.1 F2.out.2 (.inr ⟨_, _, F1.out.cnt, .inl rfl⟩))
  have Hvb2 := Lib.hid ((K2.keep vb _ _ Hvb.out (fun e => by have h1 := Hvb.out; rw [e, H.out.blk] at h1; cases h1) (by decide) (by decide)).trans Hvb.out)
  have Hvc2 := Lib.hid ((K2.keep vc _ _ Hvc.out (fun e => by have h1 := Hvc.out; rw [e, H.out.blk] at h1; cases h1) (by decide) (by decide)).trans Hvc.out)
  have Hn2 := Lib.hid (show w2.heap[w.heap.size]? = _ from (F2.out.2.elim fun o hu => hu.other _ (fun e => by have h1 := heap_lt H.out.cnt; omega)).trans Hn1.out)
  have HK2 := Lib.hid K2
  have G2 := Lib.hid F2.out.1
  clear K2 y1 y2 y3 hH
  have y1 := one_cell Hvb2.out
  have y2 := one_cell Hvc2.out
  have y3 : w2.cell? ⟨c.cb, 0, none⟩ = some (.int .i64 ((s.cnt : Int) + 1)) := one_cell G2.out.cnt
  obtain ⟨⟨q0, q1, q2⟩, ⟨q3, q4, q5⟩, q6⟩ := cells6 G2.out.blk
  have r1 := G2.out.num.cell hj
  have r2 := G2.out.num.free j
  have r3 := G2.out.low.cell hj
  have r4 := G2.out.low.free j
  have hne : c.nb ≠ c.lb := G2.out.ok.d2.1
  have F3 := Lib.hid (G2.out.setNum' hj (s.cnt + 1) (y := (s.cnt : Int) + 1) (by omega))
  have F4 := Lib.hid (F3.out.1.setLow' hj (s.cnt + 1) (y := (s.cnt : Int) + 1) (by omega))
  clear q0 q3 q4 q5 q6
  go_upto_region 3 with (first
    | ((with_reducible refine Lex.at_region ?_); with_reducible refine Lex.wp_region_lex (by kernel_rfl) (by decide +kernel) ?_)
    | ((with_reducible refine Lex.at_fin ?_); with_reducible refine Lex.fin_on (by kernel_rfl) ?_))
  have F5 := Lib.hid F4.out.1.drew
  have K5 := ((KP.of_tch G2.out.ok.rnb.1 F3.out.2 (.inr (by obtain ⟨tc, h⟩ := G2.out.num.ty; exact ⟨tc, 3, h, .inl rfl⟩))).trans (KP.of_tch G2.out.ok.rlb.1 F4.out.2 (.inr (by obtain ⟨tc, h⟩ := F3.out.1.low.ty; exact ⟨tc, 3, h, .inl rfl⟩)))).drew
  generalize ((w2.setCell ⟨c.nb, j, none⟩ (.int .i64 ((s.cnt : Int) + 1))).setCell ⟨c.lb, j, none⟩ (.int .i64 ((s.cnt : Int) + 1))).drew = w4 at *
  have Hvb5 := Lib.hid ((K5.keep vb _ _ Hvb2.out (fun e => by have h1 := Hvb2.out; rw [e, G2.out.blk] at h1; cases h1) (by decide) (by decide)).trans Hvb2.out)
  have Hn5 := Lib.hid ((K5.keep w.heap.size _ _ Hn2.out (fun e => by have := heap_lt H.out.blk; omega) (by decide) (by decide)).trans Hn2.out)
  have K5' := Lib.hid (HK2.out.trans K5)
  clear F3 F4 K5 y1 y2 y3 q1 q2 r1 r2 r3 r4 hne
  have y1 := one_cell Hvb5.out
  obtain ⟨-, ⟨q3, q4, q5⟩, q6⟩ := cells6 F5.out.blk
  clear q3 q5 q6
  have Z0 := Lib.hid (show w4.drew.cell? ⟨vb, 0, none⟩ = _ from y1)
  have Z1 := Lib.hid (show w4.drew.cell? ⟨c.fb, 4, none⟩ = _ from q4)
  have F6 := Lib.hid F5.out.drew
  have Hov := Lib.hid (show ∀ g, ov.ownBlock = some g → ¬ (g = vb ∨ g = c.fb) from fun g hg e => by
    obtain ⟨h1, tc, h2⟩ := own_ty F5.out.own hg
    rcases e with rfl | rfl
    · rw [Hvb5.out] at h2; cases h2
    · have := F5.out.ok.rfb.2; omega)
  have Hn6 := Lib.hid (show w4.drew.heap[w.heap.size]? = _ from Hn5.out)
  have Hvb6 := Lib.hid (show w4.drew.heap[vb]? = _ from Hvb5.out)
  have b6 : Below w4.drew.heap.size w4.drew (w4.drew.alloc (.cells #[.int .i64 j] 3)) := (Below.refl _ _).alloc (Nat.le_refl _) _
  have n6 := heap_alloc_new w4.drew (.cells #[.int .i64 j] 3)
  have Hbz := Lib.hid (show c.B ≤ (w4.drew.alloc (.cells #[.int .i64 j] 3)).heap.size from Nat.le_trans F6.out.sz b6.size)
  have Ho6 := Lib.hid (ownsRow_below F6.out.own b6 (Nat.le_refl _))
  have Hrc := Lib.hid (show RC (w4.drew.alloc (.cells #[.int .i64 j] 3)) 1 (some ⟨w4.drew.heap.size, 0, none⟩) 1 (ic [(j : Int)]) from RC.row rfl n6 (fun j u hu => by simpa [ic] using hu))
  have hbd : s.op.length + 1 ≤ 67108864 := by omega
  clear b6 n6
  go_upto_region 4 with (first
    | ((with_reducible refine Lex.at_finK ?_); refine LexK.finE_on (by kernel_rfl) (by repeat first | exact LexK.finL_nil | refine LexK.finL_none rfl ?_ | refine LexK.finL_skip (by decide +kernel) ?_ | refine LexK.finL_take rfl (.inl rfl) Z0.out ?_ | refine LexK.finL_take rfl (.inr rfl) Z1.out ?_) ?_)
    | ((with_reducible refine Lex.at_region ?_); refine LexK.wp_region_lexE (fun x => x = vb ∨ x = c.fb) (by kernel_rfl) (by decide +kernel) ?_)
    | ((with_reducible refine Lex.at_wpX ?_); with_reducible refine LexK.wpX_plain (by decide +kernel) ?_)
    | ((with_reducible refine Lex.at_wpX ?_); with_reducible refine LexK.wpX_call ?_)
    | ((with_reducible refine Lex.at_wpX ?_); with_reducible refine LexK.wpX_nil ?_)
    | ((with_reducible refine Lex.at_ext ?_); with_reducible refine LexK.ext_on (LexK.Ext.alloc _ _) ?_)
    | ((with_reducible refine Lex.at_ext ?_); refine LexK.ext_on (ext_fr hf3 (by simp) Hov.out) ?_)
    | (at_builtin; go_loud (refine wpList_append_ownrc rfl (.tmp 32) (.tmp 34) 22 rfl 3 (by kernel_rfl) int_info rfl (by decide) (by decide) c.B _ (some ⟨w4.heap.size, 0, none⟩) s.op.length 1 1 _ (ic [(j : Int)]) Hbz.out ov rfl rfl Ho6.out Hrc.out (ic_one _) hbd ?_); intro v3 w3 ho3 hf3; have FO := Lib.hid (F6.out.open' rfl hf3 ho3); obtain ⟨p3, c3, rfl⟩ := own_slice ho3; obtain ⟨-, ⟨g3, g4, g5⟩, g6⟩ := cells6 (FO.out.2.2.trans F6.out.blk); clear g3 g5 ho3))
  have FO1 := Lib.hid FO.out.1
  have hk7 := FO.out.2.1
  have Hn7 := Lib.hid ((hk7.keep w.heap.size _ _ Hn6.out (fun e => by have := heap_lt H.out.blk; omega) (by decide) (by decide)).trans Hn6.out)
  have K7 := Lib.hid ((K5'.out.drew).trans hk7)
  generalize w3.setCell ⟨c.fb, 4, none⟩ (.slice p3 (s.op.length + 1) c3) = w7 at *
  clear hk7
  go_wp2_with (with_reducible refine wpList_store_row rfl 70 (.tmp 4) (.tmp 39) rfl _ _ rfl rfl _ _ Hn7.out (by kernel_rfl) (by kernel_rfl) (by kernel_rfl) ?_)
  refine bodyPost_ret (results_cell_row rfl _ _ w.heap.size 70 _ (0, 0) _ rfl (setRow_heap _ _ _ _ _ _ Hn7.out) rfl rfl (by kernel_rfl)) rfl ?_
  have hu : Upd w.heap.size (.cells #[.int .i64 j, .int .i64 0] 70) w7 (w7.setRow w.heap.size #[.int .i64 j, .int .i64 0]) := ⟨rfl, rfl, rfl, by simp, setRow_heap _ _ _ _ _ _ Hn7.out, fun k hk => setRow_other _ _ _ _ hk⟩
  refine ⟨_, rfl, FO1.out.far Hn7.out (by decide) (by decide) (by decide) ⟨_, hu⟩, ?_⟩
  refine ⟨K7.out.below.trans (hu.below (by have := H.out.ok.rfb.1; have := heap_lt H.out.blk; omega)), fun k arr t hk h1 h2 h3 => ?_⟩
  exact (hu.other k (by have := heap_lt hk; omega)).trans (K7.out.keep k arr t hk h1 h2 h3)
end Go.Proofs.Yteejlibiidiibaa
