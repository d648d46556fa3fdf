/-
  Walks: combine's closure, a step.
-/
import Derived.Test.YtkppcibffbnhoaaE2
namespace Go.Proofs.Ytkppcibffbnhoaa
open Go.RowKit

theorem NZ.at_ns {Z : Nat} {w : World} {p : Option Addr} {N : List Tri} (h : NZ Z w p N) (hZ : Z ≤ w.heap.size) (n : Nat) : NS (w.drewN n) p N := h.ns hZ
theorem CI.drewN {c : CP} {L : List T} {K : List (Nat × Nat)} {f : Nat × Nat → Option Int} {v : Value} {w : World} (h : CI c L K f v w) (n : Nat) : CI c L K f v (w.drewN n) := h.below ⟨rfl, rfl, rfl, Nat.le_refl _, fun _ _ => rfl⟩

set_option maxRecDepth 100000
set_option maxHeartbeats 8000000 in
theorem apply_hit (c : CP) (m : Nat) (x y R : T) (L : List T) (K : List (Nat × Nat)) (f : Nat × Nat → Option Int) (v : Value) (w : World) (h : CI c L K f v w) (ix : inn c.La x) (iy : inn c.Lb y) (oR : R.Ok) (hR : ∀ a, R.ev a = c.op (x.ev a) (y.ev a))
    (hg : 2 ≤ ref c.La x ∨ ref c.La x < 2 ∧ 2 ≤ ref c.Lb y) (r : Int) (hf : f (ref c.La x, ref c.Lb y) = some r) :
    Calls Try.prog 54 #[.int .i64 (ref c.La x), .int .i64 (ref c.Lb y), .pointer (some ⟨c.opv, 0, none⟩), .pointer (some ⟨c.rsv, 0, none⟩), .pointer (some ⟨c.av, 0, none⟩), .pointer (some ⟨c.bv, 0, none⟩), .pointer (some ⟨c.ouv, 0, none⟩), .pointer (some ⟨c.apv, 0, none⟩)] w (AR c R m L K v w) := by
  obtain ⟨iR, rfl⟩ := h.t.memo.val x y R r ix iy oR hR hf
  have hrx := ref_lt ix
  have hry := ref_lt iy
  have hlA := h.s.lA
  have hlB := h.s.lB
  generalize ref c.La x = rx at *
  generalize ref c.Lb y = ry at *
  have hal := (Below.refl w.heap.size w).alloc (Nat.le_refl _) (.cells #[.int .i64 rx, .int .i64 ry] 83)
  obtain ⟨r0, -⟩ := cells1 h.s.rsv
  have hrl := heap_lt h.s.rsv
  have hfin : AR c R m L K v w (.returned (.int .i64 (ref L R))) (w.alloc (.cells #[.int .i64 rx, .int .i64 ry] 83)) := ⟨L, K, f, v, rfl, Grow.refl _, iR, h.below hal, Fr.of_below hal, fun z hz => .inl hz⟩
  have Hf := Lib.hid hfin; clear hfin
  have H := Lib.hid h; clear h
  have Hff := Lib.hid hf; clear hf
  have Hal := Lib.hid hal; clear hal
  clear hR iR
  rcases hg with g | ⟨g1, g2⟩
  · have fx : decide ((rx : Int) < 2) = false := by simp; omega
    go_enter Try.func54, Try.ntmps54
    go_wp2_with (first
      | (at_lookup; refine wpList_mv_look code2 (by kernel_rfl) _ rfl _ _ rfl c.rm K.length f rfl (H.out.t.mp.below Hal.out) (rx, ry) ⟨by show rx ≤ _; omega, by show ry ≤ _; omega⟩ rfl ?_; rw [Hff.out]; intro cc hc; obtain rfl := hc _ rfl))
    go_ret
    exact Hf.out
  · have fx : decide ((rx : Int) < 2) = true := by simp; omega
    have fy : decide ((ry : Int) < 2) = false := by simp; omega
    go_enter Try.func54, Try.ntmps54
    go_wp2_with (first
      | (at_lookup; refine wpList_mv_look code2 (by kernel_rfl) _ rfl _ _ rfl c.rm K.length f rfl (H.out.t.mp.below Hal.out) (rx, ry) ⟨by show rx ≤ _; omega, by show ry ≤ _; omega⟩ rfl ?_; rw [Hff.out]; intro cc hc; obtain rfl := hc _ rfl))
    go_ret
    exact Hf.out

set_option maxHeartbeats 8000000 in
theorem apply_miss (c : CP) (x y R : T) (L : List T) (K : List (Nat × Nat)) (f : Nat × Nat → Option Int) (v : Value) (w : World) (h : CI c L K f v w) (ix : inn c.La x) (iy : inn c.Lb y) (oR : R.Ok) (hR : ∀ a, R.ev a = c.op (x.ev a) (y.ev a))
    (hg : 2 ≤ ref c.La x ∨ ref c.La x < 2 ∧ 2 ≤ ref c.Lb y) (hf : f (ref c.La x, ref c.Lb y) = none) (n : Nat) (hnx : min x.lit y.lit = n) (hn : n < 12)
    (ih : ∀ (x' y' R' : T) (L : List T) (K : List (Nat × Nat)) (f : Nat × Nat → Option Int) (v : Value) (w : World), (x' = x.hi n ∧ y' = y.hi n ∨ x' = x.lo n ∧ y' = y.lo n) → CI c L K f v w → inn c.La x' → inn c.Lb y' → R'.Ok → (∀ a, R'.ev a = c.op (x'.ev a) (y'.ev a)) →
      Calls Try.prog 54 #[.int .i64 (ref c.La x'), .int .i64 (ref c.Lb y'), .pointer (some ⟨c.opv, 0, none⟩), .pointer (some ⟨c.rsv, 0, none⟩), .pointer (some ⟨c.av, 0, none⟩), .pointer (some ⟨c.bv, 0, none⟩), .pointer (some ⟨c.ouv, 0, none⟩), .pointer (some ⟨c.apv, 0, none⟩)] w (AR c R' (x'.sz + y'.sz) L K v w)) :
    Calls Try.prog 54 #[.int .i64 (ref c.La x), .int .i64 (ref c.Lb y), .pointer (some ⟨c.opv, 0, none⟩), .pointer (some ⟨c.rsv, 0, none⟩), .pointer (some ⟨c.av, 0, none⟩), .pointer (some ⟨c.bv, 0, none⟩), .pointer (some ⟨c.ouv, 0, none⟩), .pointer (some ⟨c.apv, 0, none⟩)] w (AR c R (x.sz + y.sz) L K v w) := by
  have ox := inn_ok h.s.wfA ix
  have oy := inn_ok h.s.wfB iy
  obtain ⟨H, G, oH, oG, eR, hH, hG, lH, lG⟩ := op_step ox oy oR hR (n := n) (by omega) (by omega) hn
  have hrx := ref_lt ix
  have hry := ref_lt iy
  have hlA := h.s.lA
  have hlB := h.s.lB
  have hx1 := ref_lt (hi_inn h.s.wfA ix (n := n))
  have hal := (Below.refl w.heap.size w).alloc (Nat.le_refl _) (.cells #[.int .i64 (ref c.La x), .int .i64 (ref c.Lb y)] 83)
  have hnew := heap_alloc_new w (.cells #[.int .i64 (ref c.La x), .int .i64 (ref c.Lb y)] 83)
  have hA := fun wx (hw : CI c L K f v wx) n => Calls.quiet_of_same ((litof_tree c.pa c.ca c.La x (wx.drewN n) (hw.s.na.at_ns hw.s.zw n) hw.s.wfA ix (by omega)).mono fun e u (h : _ ∧ _) => ⟨h.1, h.2.symm⟩)
  have hB := fun wx (hw : CI c L K f v wx) n => Calls.quiet_of_same ((litof_tree c.pb c.cb c.Lb y (wx.drewN n) (hw.s.nb.at_ns hw.s.zw n) hw.s.wfB iy (by omega)).mono fun e u (h : _ ∧ _) => ⟨h.1, h.2.symm⟩)
  have hbA := fun wx (hw : CI c L K f v wx) => branch_tree c.pa c.ca c.La x n wx (hw.s.na.at_ns hw.s.zw 0) hw.s.wfA ix (by omega) hn
  have hbB := fun wx (hw : CI c L K f v wx) => branch_tree c.pb c.cb c.Lb y n wx (hw.s.nb.at_ns hw.s.zw 0) hw.s.wfB iy (by omega) hn
  have ihh := fun L K f v w hw => ih (x.hi n) (y.hi n) H L K f v w (.inl ⟨rfl, rfl⟩) hw (hi_inn h.s.wfA ix) (hi_inn h.s.wfB iy) oH hH
  have ihl := fun L K f v w hw => ih (x.lo n) (y.lo n) G L K f v w (.inr ⟨rfl, rfl⟩) hw (lo_inn h.s.wfA ix) (lo_inn h.s.wfB iy) oG hG
  have hnode := fun L2 K2 f2 v2 w2 (hw : CI c L2 K2 f2 v2 w2) iH iG rH hr => node_step hw n H G iH iG hn rH hr
  have hs1 : (x.hi n).sz + (y.hi n).sz < x.sz + y.sz := by
    have a1 := hi_sz (n := n) x
    have a2 := hi_sz (n := n) y
    rcases Nat.lt_or_ge x.lit y.lit with h1 | h1
    · have := a1.2 (by omega) hn; omega
    · have := a2.2 (by omega) hn; omega
  have hs2 : (x.lo n).sz + (y.lo n).sz < x.sz + y.sz := by
    have a1 := lo_sz (n := n) x
    have a2 := lo_sz (n := n) y
    rcases Nat.lt_or_ge x.lit y.lit with h1 | h1
    · have := a1.2 (by omega) hn; omega
    · have := a2.2 (by omega) hn; omega
  have hsm : ∀ m, m < x.sz + y.sz → ∀ z, Small c m z → Small c (x.sz + y.sz) z ∧ z ≠ (ref c.La x, ref c.Lb y) := by
    rintro m hm z ⟨s, t, i1, i2, rfl, h3⟩
    refine ⟨⟨s, t, i1, i2, rfl, by omega⟩, fun e => ?_⟩
    simp only [Prod.mk.injEq] at e
    have e1 := ref_inj i1 ix e.1
    have e2 := ref_inj i2 iy e.2
    subst e1; subst e2; omega
  have hself : Small c (x.sz + y.sz) (ref c.La x, ref c.Lb y) := ⟨x, y, ix, iy, rfl, Nat.le_refl _⟩
  have hpl : ∀ L' K' f', inn L' R → Memo c.op c.La c.Lb L' K' f' → f' (ref c.La x, ref c.Lb y) = none → Memo c.op c.La c.Lb L' ((ref c.La x, ref c.Lb y) :: K') (fun z => if z = (ref c.La x, ref c.Lb y) then some ((ref L' R : Nat) : Int) else f' z) := fun L' K' f' h2 h3 h1 => h3.put ix iy oR hR h2 h1
  have hrsl := heap_lt h.s.rsv
  have hlx : 2 ≤ ref c.La x ∨ ref c.La x < 2 ∧ 2 ≤ ref c.Lb y := hg
  clear hR hH hG ih oR
  obtain ⟨xh, hxh⟩ : ∃ q, q = ref c.La (x.hi n) := ⟨_, rfl⟩
  obtain ⟨xl, hxl⟩ : ∃ q, q = ref c.La (x.lo n) := ⟨_, rfl⟩
  obtain ⟨yh, hyh⟩ : ∃ q, q = ref c.Lb (y.hi n) := ⟨_, rfl⟩
  obtain ⟨yl, hyl⟩ : ∃ q, q = ref c.Lb (y.lo n) := ⟨_, rfl⟩
  rw [← hxh, ← hxl] at hbA
  rw [← hyh, ← hyl] at hbB
  rw [← hxh, ← hyh] at ihh
  rw [← hxl, ← hyl] at ihl
  clear hxh hxl hyh hyl hx1
  generalize ref c.La x = rx at *
  generalize ref c.Lb y = ry at *
  have hsm1 := hsm _ hs1
  have hsm2 := hsm _ hs2
  clear hsm hs1 hs2
  generalize (x.hi n).sz + (y.hi n).sz = m1 at *
  generalize (x.lo n).sz + (y.lo n).sz = m2 at *
  generalize x.sz + y.sz = m at *
  have Hpl := Lib.hid hpl; clear hpl
  have Hsm1 := Lib.hid hsm1; have Hsm2 := Lib.hid hsm2; have Hself := Lib.hid hself
  have Hnode := Lib.hid hnode; have Ihh := Lib.hid ihh; have Ihl := Lib.hid ihl
  clear hsm1 hsm2 hself hnode ihh ihl
  have HK := Lib.hid (show (rx, ry) ∉ K from fun hm => by have := (h.t.memo.mem _).1 hm; rw [hf] at this; cases this)
  have Hf := Lib.hid hf; clear hf
  have HeR := Lib.hid eR; clear eR
  generalize x.lit = lx at *
  generalize y.lit = ly at *
  have hif : (if ly < lx then (ly : Int) else (lx : Int)) = (n : Int) := by split <;> omega
  clear hnx
  obtain ⟨r0, -⟩ := cells1 h.s.rsv
  have HC0 := Lib.hid h; clear h
  have Hal := Lib.hid hal; clear hal
  have hgood : good2 (rx, ry) := ⟨by show rx ≤ _; omega, by show ry ≤ _; omega⟩
  have Hnew := Lib.hid hnew; clear hnew
  obtain ⟨wa, hwa⟩ : ∃ q, q = w.alloc (.cells #[.int .i64 rx, .int .i64 ry] 83) := ⟨_, rfl⟩
  have hgb : decide ((rx : Int) < 2) = false ∨ decide ((rx : Int) < 2) = true ∧ decide ((ry : Int) < 2) = false := by
    rcases hg with g | ⟨g1, g2⟩
    · left; simp; omega
    · right; constructor <;> simp <;> omega
  clear hg hlx
  rcases hgb with fx | ⟨fx, fy⟩
  all_goals
    go_enter Try.func54, Try.ntmps54
    go_upto_region 9 with (at_lookup; refine wpList_mv_look code2 (by kernel_rfl) _ rfl _ _ rfl c.rm K.length f rfl (HC0.out.t.mp.below Hal.out) (rx, ry) hgood rfl ?_; rw [Hf.out]; intro cc hc)
    rw [← hwa]
    have HCa := Lib.hid (HC0.out.below Hal.out)
    rw [← hwa] at HCa Hnew
    have Hfa := Lib.hid (Fr.of_below (S := [c.b, c.kb, c.rm]) (v := v) Hal.out)
    rw [← hwa] at Hfa
    clear hwa Hal r0
    obtain ⟨a0, -, -⟩ := cells2 HCa.out.s.av
    obtain ⟨b0, -, -⟩ := cells2 HCa.out.s.bv
    have hA' := hA _ HCa.out
    have hB' := hB _ HCa.out
    go_quiet ((go_at_call 31; first | (with_reducible exact hA' _) | (with_reducible exact hB' _)))
    have hbA' := fun k => (hbA (wa.drewN k) (HCa.out.drewN k)).mono fun e u (h : _ ∧ ∃ m, u = (wa.drewN k).drewN m) => (⟨h.1, h.2.elim fun m hm => ⟨k + m, by rw [hm, World.drewN_drewN]⟩⟩ : _ ∧ ∃ m, u = wa.drewN m)
    have hbB' := fun k => (hbB (wa.drewN k) (HCa.out.drewN k)).mono fun e u (h : _ ∧ ∃ m, u = (wa.drewN k).drewN m) => (⟨h.1, h.2.elim fun m hm => ⟨k + m, by rw [hm, World.drewN_drewN]⟩⟩ : _ ∧ ∃ m, u = wa.drewN m)
    clear hA hB hA' hB' hbA hbB hif
    go_upto_region 12 with (first
      | (go_at_call 55; ((with_reducible refine (hbA' _).mono ?_); rintro e u ⟨rfl, d1, hu⟩; subst hu))
      | (go_at_call 55; ((with_reducible refine (hbB' _).mono ?_); rintro e u ⟨rfl, d2, hu⟩; subst hu)))
    have HCb := Lib.hid (HCa.out.drewN d2)
    have Hnb := Lib.hid (show (wa.drewN d2).heap[w.heap.size]? = _ from Hnew.out)
    have Hfb := Lib.hid (show Fr [c.b, c.kb, c.rm] v v w (wa.drewN d2) from ⟨Hfa.out.os, Hfa.out.tape, Hfa.out.output, Hfa.out.size, Hfa.out.block, Hfa.out.own⟩)
    clear hbA' hbB' a0 b0 HCa Hnew Hfa
    generalize wa.drewN d2 = wb at *
    have HCd := Lib.hid (show CI c L K f v wb.drew from HCb.out.drewN 1)
    have y0 := Lib.hid (show wb.drew.cell? ⟨c.ouv, 0, none⟩ = _ from (cells1 HCb.out.s.ouv).1)
    have y1 := Lib.hid (show wb.drew.cell? ⟨c.apv, 0, none⟩ = _ from (cells1 HCb.out.s.apv).1)
    obtain ⟨o0, -⟩ := cells1 HCb.out.s.ouv
    obtain ⟨p0, -⟩ := cells1 HCb.out.s.apv
    go_upto_region 13 with (first
      | ((with_reducible refine Lex.at_finK ?_); refine LexK.finE_on (by kernel_rfl) (by repeat first | exact LexK.finL_nil | refine LexK.finL_none rfl ?_ | refine LexK.finL_skip (by decide +kernel) ?_ | refine LexK.finL_take rfl (.inl rfl) y0.out ?_ | refine LexK.finL_take rfl (.inr rfl) y1.out ?_) ?_)
      | ((with_reducible refine Lex.at_region ?_); refine LexK.wp_region_lexE (fun x => x = c.ouv ∨ x = c.apv) (by kernel_rfl) (by decide +kernel) ?_)
      | ((with_reducible refine Lex.at_wpX ?_); with_reducible refine LexK.wpX_plain (by decide +kernel) ?_)
      | ((with_reducible refine Lex.at_wpX ?_); with_reducible refine LexK.wpX_call ?_)
      | ((with_reducible refine Lex.at_wpX ?_); with_reducible refine LexK.wpX_nil ?_)
      | ((with_reducible refine Lex.at_ext ?_); with_reducible refine LexK.ext_on Hext.out ?_)
      | (go_at_call 54; ((with_reducible refine (Ihh.out _ _ _ _ _ HCd.out).mono ?_); rintro e w1 ⟨L1, K1, f1, v1, rfl, g1, i1, hC1, hf1, hk1⟩; have G1 := Lib.hid g1; clear g1; have HC1 := Lib.hid hC1; have Hf1 := Lib.hid hf1; have Hk1 := Lib.hid hk1; have I1 := Lib.hid i1; clear hC1 hf1 hk1 i1; have Hext := Lib.hid (HCd.out.ext Hf1.out); obtain ⟨q1, -⟩ := cells1 HC1.out.s.apv))
      | (go_at_call 54; ((with_reducible refine (Ihl.out _ _ _ _ _ HC1.out).mono ?_); rintro e w2 ⟨L2, K2, f2, v2, rfl, g2, i2, hC2, hf2, hk2⟩; have G2 := Lib.hid g2; clear g2; have HC2 := Lib.hid hC2; have Hf2 := Lib.hid hf2; have Hk2 := Lib.hid hk2; have I2 := Lib.hid i2; clear hC2 hf2 hk2 i2; have Hext := Lib.hid (HC1.out.ext Hf2.out)))
      | (go_at_call 32; ((with_reducible refine (Hnode.out _ _ _ _ _ HC2.out (G2.out.inn I1.out) I2.out _ (G2.out.ref I1.out).symm).mono ?_); rintro e w3 ⟨v3, rfl, hB3, hf3⟩; have HB3 := Lib.hid hB3; have Hf3 := Lib.hid hf3; clear hB3 hf3; have Hext := Lib.hid (HC2.out.ext (HC2.out.mid Hf3.out).1))))
    rw [← HeR.out]
    obtain ⟨wf3, i3⟩ := nodeL_wf HC2.out.t.wf oH oG lH lG (G2.out.inn I1.out) I2.out
    rw [← HeR.out] at i3
    obtain ⟨MM, eL3, lL3⟩ := nodeL_app L2 n H G
    have g3 : Grow L2 (nodeL L2 n H G) := ⟨MM, eL3⟩
    have len3 : (nodeL L2 n H G).length ≤ L2.length + 1 := by rw [eL3, List.length_append]; omega
    clear eL3 lL3
    generalize nodeL L2 n H G = L3 at *
    obtain ⟨hfm, hmv⟩ := HC2.out.mid Hf3.out
    have hfB := (Fr.drew0 Hf1.out).trans (Hf2.out.trans hfm)
    have zb1 := heap_lt HC0.out.t.bd.blk
    have zb2 := HC0.out.t.bd.kn.lt
    have zb3 := HC0.out.t.mp.lt
    obtain ⟨hpb, -⟩ := hfB.pair Hnb.out (by simp; omega) (fun e => by have := (HC0.out.t.bd.own.lt _ e).2; omega)
    have hzk : (rx, ry) ∉ K2 := fun hm => by
      rcases Hk2.out _ hm with h1 | h1
      · rcases Hk1.out _ h1 with h2 | h2
        · exact HK.out h2
        · exact (Hsm1.out _ h2).2 rfl
      · exact (Hsm2.out _ h1).2 rfl
    have hfz : f2 (rx, ry) = none := by
      cases hq : f2 (rx, ry) with
      | none => rfl
      | some q => exact absurd ((HC2.out.t.memo.mem _).2 (by rw [hq]; rfl)) hzk
    have hlen2 := HC2.out.t.lens HC2.out.s
    have hr3 := ref_lt i3
    have hmm := Hpl.out L3 K2 f2 i3 (by obtain ⟨MM, rfl⟩ := g3; exact HC2.out.t.memo.grow MM) hfz
    have hkeys : ∀ z ∈ (rx, ry) :: K2, z ∈ K ∨ Small c m z := fun z hz => by
      rcases List.mem_cons.1 hz with rfl | h0
      · exact .inr Hself.out
      · rcases Hk2.out _ h0 with h1 | h1
        · rcases Hk1.out _ h1 with h2 | h2
          · exact .inl h2
          · exact .inr (Hsm1.out _ h2).1
        · exact .inr (Hsm2.out _ h1).1
    have Hkeys := Lib.hid hkeys; have Hmm := Lib.hid hmm; have Hmv := Lib.hid hmv; have I3 := Lib.hid i3; have Wf3 := Lib.hid wf3; have G3 := Lib.hid g3
    obtain ⟨r3, -⟩ := cells1 (HC2.out.stays hfm).rsv
    obtain ⟨b3, b3', -⟩ := cells2 hpb
    clear hkeys hmm hmv i3 wf3 g3 hfz hzk hpb hfm hfB o0 p0 y0 y1 HeR Ihh Ihl Hnode
    go_wp2_with (first
      | (at_mapUpdate; go_loud (refine wpList_mv_put code2 (by kernel_rfl) _ rfl _ _ _ (.inl rfl) c.rm K2.length f2 rfl Hmv.out (by omega) (rx, ry) hgood rfl ((ref L3 R : Nat) : Int) rfl (wf_nat (by omega)) ?_; intro w4 hm4 ht4; have Hm4 := Lib.hid hm4; clear hm4; have Ht4 := Lib.hid ht4; clear ht4)))
    go_ret
    obtain ⟨hci, hf4⟩ := HC2.out.done HB3.out Hf3.out (rx, ry) _ Hm4.out Ht4.out Wf3.out Hmm.out len3
    exact ⟨L3, _, _, v3, rfl, G1.out.trans (G2.out.trans G3.out), I3.out, hci, Hfb.out.trans ((Fr.drew0 Hf1.out).trans (Hf2.out.trans hf4)), Hkeys.out⟩
end Go.Proofs.Ytkppcibffbnhoaa
