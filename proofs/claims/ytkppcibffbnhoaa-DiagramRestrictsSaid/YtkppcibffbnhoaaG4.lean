/-
  Walks: the closure of Paths, its two ends.
-/
import Derived.Test.YtkppcibffbnhoaaG3
namespace Go.Proofs.Ytkppcibffbnhoaa
open Go.RowKit
set_option maxRecDepth 100000

set_option maxHeartbeats 4000000 in
theorem paths_false (Z : Nat) (c : PB) (p : Option Addr) (cap r : Nat) (L : List T) (VP : List (Value × Value)) (ps : List IP) (v vp vn : Value) (w : World) (h : PI Z c p cap r L VP ps v w) :
    Calls Try.prog 43 #[.int .i64 0, vp, vn, .pointer (some ⟨c.ov, 0, none⟩), .pointer (some ⟨c.dv, 0, none⟩), .pointer (some ⟨c.wv, 0, none⟩)] w (PR Z c p cap r L [] ps v w) := by
  have H := Lib.hid (show PR Z c p cap r L [] ps v w (.returned (.tuple #[])) w from ⟨VP, v, rfl, by rw [List.append_nil]; exact h, Fr.refl _ _ _⟩)
  clear h
  go_enter Try.func43, Try.ntmps43
  go_wp2
  go_end0
  exact H.out
set_option maxHeartbeats 4000000 in
theorem paths_true (Z : Nat) (c : PB) (p : Option Addr) (cap r : Nat) (L : List T) (VP : List (Value × Value)) (ps : List IP) (v vp vn : Value) (pos neg : List Int) (w : World) (h : PI Z c p cap r L VP ps v w) (hp : I3 w vp pos) (hn : I3 w vn neg)
    (lp : pos.length ≤ 1000) (ln : neg.length ≤ 1000) (lps : ps.length ≤ 100000) :
    Calls Try.prog 43 #[.int .i64 1, vp, vn, .pointer (some ⟨c.ov, 0, none⟩), .pointer (some ⟨c.dv, 0, none⟩), .pointer (some ⟨c.wv, 0, none⟩)] w (PR Z c p cap r L [(pos, neg)] ps v w) := by
  have H := Lib.hid h; clear h
  have Hp := Lib.hid hp; have Hn := Lib.hid hn; clear hp hn
  obtain ⟨o0, oz⟩ := cells1 H.out.ov
  go_enter Try.func43, Try.ntmps43
  go_upto_region 6 with fail
  have y0 := Lib.hid (show w.drew.cell? ⟨c.ov, 0, none⟩ = _ from o0)
  have hcp := fun wx (hb : Below w.heap.size w wx) => clone_any vp pos wx (Hp.out.is.below hb) (by omega)
  have hcn := fun wx (hb : Below w.heap.size w wx) => clone_any vn neg wx (Hn.out.is.below hb) (by omega)
  have hlv := H.out.vals.len
  have hB0 := Lib.hid (show Below w.heap.size w w.drew from (Below.refl _ _).drew)
  have hvl : VP.length ≤ 100000 := by omega
  clear hlv
  have hovl := heap_lt H.out.ov
  obtain ⟨pv, cv, rfl⟩ := own_slice H.out.own
  have hdne : (Value.slice pv VP.length cv).ownBlock ≠ some c.ov := own_ne' H.out.own H.out.ov (by decide)
  go_wp2_with (first
    | ((with_reducible refine Lex.at_finK ?_); refine LexK.finE_on (by kernel_rfl) (by repeat first | exact LexK.finL_nil | refine LexK.finL_none rfl ?_ | refine LexK.finL_skip (by decide +kernel) ?_ | refine LexK.finL_take rfl rfl y0.out ?_) ?_)
    | ((with_reducible refine Lex.at_region ?_); refine LexK.wp_region_lexE (fun x => x = c.ov) (by kernel_rfl) (by decide +kernel) ?_)
    | ((with_reducible refine Lex.at_wpX ?_); with_reducible refine LexK.wpX_plain (by decide +kernel) ?_)
    | ((with_reducible refine Lex.at_wpX ?_); with_reducible refine LexK.wpX_call ?_)
    | ((with_reducible refine Lex.at_wpX ?_); with_reducible refine LexK.wpX_nil ?_)
    | ((with_reducible refine Lex.at_ext ?_); with_reducible refine LexK.ext_on (LexK.Ext.alloc _ _) ?_)
    | ((with_reducible refine Lex.at_ext ?_); with_reducible refine LexK.ext_on Hext.out ?_)
    | (go_at_call 44; ((with_reducible refine (hcp _ hB0.out).mono ?_); rintro e w1 ⟨v1, rfl, i1, hb1⟩; have I1 := Lib.hid i1; have Hb1 := Lib.hid (hB0.out.step hb1); have Hext := Lib.hid (LexK.Ext.of_below (Kp := fun x => x = c.ov) hb1 (Nat.le_refl _)); clear i1 hb1))
    | (go_at_call 44; ((with_reducible refine (hcn _ Hb1.out).mono ?_); rintro e w2 ⟨v2, rfl, i2, hb2⟩; have I2 := Lib.hid i2; have I12 := Lib.hid (I1.out.below hb2); have Hb2 := Lib.hid (Hb1.out.step hb2); have Hext := Lib.hid (LexK.Ext.of_below (Kp := fun x => x = c.ov) hb2 (Nat.le_refl _)); obtain ⟨b1, k1, rfl, hk1, hr1⟩ := id I1.out; obtain ⟨b2, k2, rfl, hk2, hr2⟩ := id i2; have hbx : Below w.heap.size w (w2.alloc (.cells #[.slice b1 pos.length k1, .slice b2 neg.length k2] 46)) := Hb2.out.alloc Hb2.out.size _; have HX := Lib.hid (H.out.below hbx); have Hbx := Lib.hid hbx; have hone : ∀ u ∈ [Value.slice b1 pos.length k1, .slice b2 neg.length k2], u.oneCell' = true := (by intro u hu; simp at hu; rcases hu with rfl | rfl <;> rfl); have Hone := Lib.hid hone; clear i2 hb2 hone hbx))
    | ((with_reducible refine Lex.at_ext ?_); refine LexK.ext_on (ext_fr hf3 (by simp) (fun g hg e => hdne (by rw [hg, e]))) ?_)
    | (at_builtin; go_loud (refine wpList_append_fr rfl (.tmp 43) (.tmp 49) 25 rfl 46 (by kernel_rfl) path_info rfl (by decide) (by decide) Z _ w2.heap.size [.slice b1 pos.length k1, .slice b2 neg.length k2] (heap_alloc_new w2 _) HX.out.zw rfl Hone.out (.slice pv VP.length cv) VP.length (pcs VP) rfl HX.out.own (by omega) rfl ?_; intro v3 w3 ho3 hf3; obtain ⟨p3, c3, rfl⟩ := own_slice ho3; have Ho3 := Lib.hid ho3; clear ho3; have hblk3 := (hf3.block c.ov (by have := Hbx.out.size; omega) (by simp) hdne).trans HX.out.ov; obtain ⟨g30, fz3⟩ := cells1 hblk3)))
  go_end0
  have hU := Upd.cast (o' := .cells #[.slice p3 (VP.length + 1) c3] 25) (Upd.set (i := 0) (v := .slice p3 (VP.length + 1) c3) (Upd.refl hblk3)) (by simp)
  have hfx : Fr [c.ov] (.slice pv VP.length cv) (.slice p3 (VP.length + 1) c3) w (w3.setCell ⟨c.ov, 0, none⟩ (.slice p3 (VP.length + 1) c3)) := ((Fr.of_below Hbx.out).trans (hf3.mono (by simp))).trans (Fr.of_upd hU (by simp))
  have ho4 : (w3.setCell ⟨c.ov, 0, none⟩ (.slice p3 (VP.length + 1) c3)).ownsRow Z 46 2 (.slice p3 (VP.length + 1) c3) (VP ++ [(Value.slice b1 pos.length k1, Value.slice b2 neg.length k2)]).length (pcs (VP ++ [(Value.slice b1 pos.length k1, Value.slice b2 neg.length k2)])) := by
    rw [List.length_append, pcs_snoc]
    exact ownsRow_at Ho3.out fun g hg => hU.other g fun e => own_ne' Ho3.out hblk3 (by decide) (by rw [hg, e])
  have hi3 : ∀ (a : Nat) (arr : Array Value), w2.heap[a]? = some (.cells arr 3) → (w3.setCell ⟨c.ov, 0, none⟩ (.slice p3 (VP.length + 1) c3)).heap[a]? = w2.heap[a]? := fun a arr ha => by
    have hx := ((Below.refl w2.heap.size w2).alloc (Nat.le_refl _) (.cells #[.slice b1 pos.length k1, .slice b2 neg.length k2] 46)).block a (heap_lt ha)
    have h1 := hf3.block a (by simp; have := heap_lt ha; omega) (by simp) (own_ne' HX.out.own (hx.trans ha) (by decide))
    have h2 := hU.other a (ne_of ((h1.trans hx).trans ha) hblk3 (by simp))
    exact (h2.trans h1).trans hx
  have hv := (H.out.vals.keep (H.out.ints hfx)).app (VI2.one (I12.out.keep hi3) (I2.out.keep hi3))
  exact ⟨VP ++ [(Value.slice b1 pos.length k1, Value.slice b2 neg.length k2)], _, rfl, H.out.step hfx hU.blk ho4 hv, hfx⟩
end Go.Proofs.Ytkppcibffbnhoaa
