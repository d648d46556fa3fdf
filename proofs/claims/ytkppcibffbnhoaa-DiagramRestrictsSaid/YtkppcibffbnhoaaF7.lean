/-
  Walks: the reference's ValidDiagram.
-/
import Derived.Test.YtkppcibffbnhoaaF6
import Derived.Deep.OwnRows
namespace Go.Proofs.Ytkppcibffbnhoaa
open Go.RowKit
set_option maxRecDepth 100000

theorem below_drew0 {B : Nat} {w w' : World} (h : Below B w.drew w') : Below B w w' := ⟨h.os, h.tape, h.output, h.size, h.block⟩
theorem make_table (w : World) : (Instr.makeSlice 39 (.int .i64 4096) (.int .i64 4096)).run Try.prog w = .ok (.slice (some ⟨w.heap.size, 0, none⟩) 4096 4096) (w.alloc (.cells (madeCells #[.bool false] 4096) 4)) :=
  run_make_row' (P := Try.prog) 39 4 (.bool false) 1 (by kernel_rfl) (by kernel_rfl) rfl .i64 .i64 4096 (by decide) (by decide) w
theorem made_get (n m : Nat) (hm : m < n) : (madeCells #[.bool false] n)[m]? = some (.bool false) := by simp [madeCells, hm, Nat.mod_one]
theorem TB.made (w : World) : TB (w.alloc (.cells (madeCells #[.bool false] 4096) 4)) w.heap.size fun _ => false := by
  refine ⟨_, heap_alloc_new _ _, fun m hm => ?_⟩
  exact made_get _ m hm
theorem TB.set {w : World} {b : Nat} {f : Nat → Bool} (h : TB w b f) {k : Nat} (hk : k < 4096) (x : Bool) : TB (w.setCell ⟨b, k, none⟩ (.bool x)) b (fun m => if m = k then x else f m) ∧ Upd b ((w.setCell ⟨b, k, none⟩ (.bool x)).heap[b]?.getD (.map #[] 0)) w (w.setCell ⟨b, k, none⟩ (.bool x)) := by
  obtain ⟨tc, h1, h2⟩ := h.ex
  have hU := Upd.set (i := k) (v := .bool x) (Upd.refl h1)
  refine ⟨⟨_, hU.blk, fun m hm => ?_⟩, by rw [hU.blk]; exact hU⟩
  have hl : k < tc.size := by
    have := h2 k hk
    exact (Array.getElem?_eq_some_iff.1 this).1
  rw [Array.getElem?_setIfInBounds]
  by_cases e : k = m
  · subst e; simp [hl]
  · rw [if_neg e, if_neg (fun e2 => e e2.symm)]; exact h2 m hm
theorem TB.free {w : World} {b : Nat} {f : Nat → Bool} (h : TB w b f) (i : Nat) : w.frozen? ⟨b, i, none⟩ = false := by
  obtain ⟨tc, h1, h2⟩ := h.ex
  simp [World.frozen?, h1]
theorem eqd_mixed (p : Option Addr) (cap : Nat) (N : List IT) (r : Nat) (t : T) (dv : Value) (w : World) (hd : DV w dv t) (hni : NI w p N) (hN : N.length ≤ 65536) :
    Calls Try.prog 15 #[dv, .agg #[.slice p N.length cap, .int .i64 r]] w (ER (decide (cN (canonN t) = N ∧ canonR t = r)) w) := by
  obtain ⟨q, c1, rfl, h1⟩ := id hd.dd.ex
  have l1 := canon_len hd.ok
  have h := eqd_any q p c1 cap (cN (canonN t)) N (canonR t) r w h1.ni hni (by rw [cN_length]; omega) (by omega)
  rw [cN_length] at h
  rw [show decide (cN (canonN t) = N ∧ ((canonR t : Nat) : Int) = (r : Int)) = decide (cN (canonN t) = N ∧ canonR t = r) from by rw [decide_eq_decide]; constructor <;> (rintro ⟨a, b⟩; exact ⟨a, by omega⟩)] at h
  exact h
/-- A table that says what a diagram says is the diagram's. -/
theorem table_good {N : List IT} {r : Nat} {t : T} {g : Nat → Bool} (ot : t.Ok) (ht : ∀ M, M < 4096 → t.ev (bitsF M) = g M) (hg : ∀ m, m < 4096 → ∀ L, Wf L → N = cN (nodes L) → g m = (tr L r).ev (bitsF m)) :
    (cN (canonN t) = N ∧ canonR t = r) ↔ Good N r := by
  constructor
  · rintro ⟨h1, h2⟩
    exact ⟨t, ot, h1, by rw [h2]⟩
  · rintro ⟨s, os, h1, h2⟩
    obtain ⟨w, iL⟩ := canon_wf os
    have h3 : canonR s = r := by omega
    have e : t = s := ev_eq12 ot os fun m hm => by
      have a := ht m hm
      have b := hg m hm (canonL s) w h1.symm
      rw [← h3, show tr (canonL s) (canonR s) = s from tr_ref iL] at b
      exact a.trans b
    subst e
    exact ⟨h1, h3⟩

set_option maxHeartbeats 8000000 in
theorem validd_any (p : Option Addr) (cap : Nat) (N : List IT) (r : Int) (w : World) (hni : NI w p N) (hN : N.length ≤ 65536) :
    Calls Try.prog 12 #[.agg #[.slice p N.length cap, .int .i64 r]] w (VR N r w) := by
  have hA := (Below.refl w.heap.size w).alloc (Nat.le_refl _) (.cells #[.slice p N.length cap, .int .i64 r] 24)
  have hnA := heap_alloc_new w (.cells #[.slice p N.length cap, .int .i64 r] 24)
  have hsafe := safe_any p cap N r _ (hni.below hA) hN
  have Hni0 := Lib.hid hni; clear hni
  have hmk := make_table
  go_enter Try.func12, Try.ntmps12
  go_upto_region 1 with fail
  have HA := Lib.hid hA; have HnA := Lib.hid hnA
  clear hA hnA
  generalize w.alloc (.cells #[.slice p N.length cap, .int .i64 r] 24) = w1 at *
  obtain ⟨d0, d1, -⟩ := cells2 HnA.out
  go_wp2_with (go_at_call 35; refine hsafe.mono ?_; rintro e w2 ⟨b, rfl, h1, h2, hb2⟩; have Hb2 := Lib.hid hb2; have Hn2 := Lib.hid ((hb2.block _ (heap_lt HnA.out)).trans HnA.out); have H1 := Lib.hid h1; have H2 := Lib.hid h2; clear h1 h2 hb2; cases b)
  · go_ret
    exact VR.no (fun hg => absurd (H2.out hg) (by simp)) (HA.out.step Hb2.out)
  obtain ⟨hS, hr0, hr1⟩ := H1.out trivial
  obtain ⟨rn, rfl⟩ : ∃ n : Nat, r = (n : Int) := ⟨r.toNat, by omega⟩
  have hal := (Below.refl w2.heap.size w2).alloc (Nat.le_refl _) (.cells (madeCells #[.bool false] 4096) 4)
  have htb := TB.made w2
  have hn3 := (hal.block _ (heap_lt Hn2.out)).trans Hn2.out
  have hb3 := HA.out.step (Hb2.out.step hal)
  have hlt2 := heap_lt Hn2.out
  have HS := Lib.hid hS
  clear H1 H2 hS hal d0 d1 hsafe
  generalize w2.alloc (.cells (madeCells #[.bool false] 4096) 4) = w3 at *
  have Htb := Lib.hid htb; have Hn3 := Lib.hid hn3; have Hb3 := Lib.hid hb3
  clear htb hn3 hb3
  have hbt : w.heap.size < w2.heap.size := by omega
  clear HA HnA Hn2 Hb2
  generalize w2.heap.size = bt at *
  go_loopw [4] (fun i wr => ∃ (k : Nat) (g : Nat → Bool), i = .int .i64 k ∧ k ≤ 4096 ∧ TB wr bt g ∧ (∀ m, m < k → ∀ L, Wf L → N = cN (nodes L) → g m = (tr L rn).ev (bitsF m)) ∧ wr.heap[w.heap.size]? = some (.cells #[.slice p N.length cap, .int .i64 rn] 24) ∧ Below w.heap.size w wr) (fun i _ => 4096 - (intOf i).toNat)
  case atStart => exact ⟨0, _, rfl, by omega, Htb.out, fun m hm => by omega, Hn3.out, Hb3.out⟩
  clear Htb Hn3 Hb3
  case round =>
    obtain ⟨k, g, rfl, hk, htb, hg, hd, hb⟩ := hrel
    have Hg := Lib.hid hg; have Htb := Lib.hid htb; have Hd := Lib.hid hd; have Hb := Lib.hid hb
    clear hg htb hd hb
    have hni := Hni0.out.below Hb.out
    obtain ⟨d0, d1, -⟩ := cells2 Hd.out
    by_cases hlt : k < 4096
    · have hw := walk_any p cap N rn k wr hni HS.out (by omega) hN (by omega)
      clear hni
      go_wp2_with (go_at_call 36; refine hw.mono ?_; rintro e w4 ⟨b, rfl, h1, hb4⟩; have H1 := Lib.hid h1; have Hd4 := Lib.hid ((hb4.block _ (heap_lt Hd.out)).trans Hd.out); have Htb4 := Lib.hid (show TB w4 bt g from by (obtain ⟨tc, t1, t2⟩ := Htb.out.ex; exact Htb.out.at (hb4.block _ (heap_lt t1)))); have hc4 := Htb4.out.cell hlt; have hz4 := Htb4.out.free k; have Hb4 := Lib.hid (Hb.out.step hb4); clear h1 hb4)
      obtain ⟨ht5, hU⟩ := Htb4.out.set hlt b
      refine ⟨⟨k + 1, _, by go_num, by omega, ht5, ?_, (hU.other _ (by omega)).trans Hd4.out, Hb4.out.trans (hU.below (by omega))⟩, by simp [intOf]; omega⟩
      intro m hm L wL hN2
      split
      · rename_i e; subst e; exact H1.out L wL hN2
      · exact Hg.out m (by omega) L wL hN2
    · obtain rfl : k = 4096 := by omega
      obtain ⟨t, ot, ht, hof⟩ := oftable_any bt g wr.drew (Htb.out.at rfl)
      have hiff := table_good ot ht Hg.out
      have Hiff := Lib.hid hiff
      have y0 := Lib.hid (show wr.drew.cell? ⟨w.heap.size, 0, none⟩ = _ from d0)
      have hof' := Lib.hid hof
      have Hni := Lib.hid hni
      have hdl := heap_lt Hd.out
      clear hof ht ot hiff hni
      go_wp2_with (first
        | ((with_reducible refine Lex.at_finK ?_); refine LexK.finE_on (by kernel_rfl) (by repeat first | exact LexK.finL_nil | refine LexK.finL_none rfl ?_ | refine LexK.finL_skip (by decide +kernel) ?_ | refine LexK.finL_take rfl rfl y0.out ?_) ?_)
        | ((with_reducible refine Lex.at_region ?_); refine LexK.wp_region_lexE (fun x => x = w.heap.size) (by kernel_rfl) (by decide +kernel) ?_)
        | ((with_reducible refine Lex.at_wpX ?_); with_reducible refine LexK.wpX_plain (by decide +kernel) ?_)
        | ((with_reducible refine Lex.at_wpX ?_); with_reducible refine LexK.wpX_call ?_)
        | ((with_reducible refine Lex.at_wpX ?_); with_reducible refine LexK.wpX_nil ?_)
        | ((with_reducible refine Lex.at_ext ?_); with_reducible refine LexK.ext_on Hext.out ?_)
        | (go_at_call 37; refine hof'.out.mono ?_; rintro e w5 ⟨dv, rfl, hdv, hb5⟩; have Hdv := Lib.hid hdv; have Hext := Lib.hid (LexK.Ext.of_below (Kp := fun x => x = w.heap.size) hb5 (Nat.le_refl _)); obtain ⟨d50, d51, -⟩ := cells2 ((hb5.block _ hdl).trans Hd.out); have Hb5 := Lib.hid hb5; clear hdv hb5)
        | (go_at_call 15; go_loud (refine (eqd_mixed p cap N rn t _ _ Hdv.out (Hni.out.below (below_drew0 Hb5.out)) hN).mono ?_); rintro e w6 ⟨rfl, hb6⟩; have Hb6 := Lib.hid hb6; have Hext := Lib.hid (LexK.Ext.of_below (Kp := fun x => x = w.heap.size) hb6 (Nat.le_refl _)); clear hb6))
      go_ret
      have hbf : Below w.heap.size w w6 := Hb.out.step ((below_drew0 Hb5.out).step Hb6.out)
      refine ⟨_, rfl, ?_, hbf⟩
      rw [Bool.and_eq_true, decide_eq_true_eq, decide_eq_true_eq]
      exact Hiff.out
end Go.Proofs.Ytkppcibffbnhoaa
