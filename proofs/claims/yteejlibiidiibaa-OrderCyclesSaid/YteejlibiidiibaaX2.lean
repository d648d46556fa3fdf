/-
  Walks: the law on cycles.
-/
import Derived.Test.YteejlibiidiibaaX1
namespace Go.Proofs.Yteejlibiidiibaa
open Go.RowKit
set_option maxRecDepth 100000
set_option maxHeartbeats 16000000 in
theorem cycles_any (w : World) (v : Value) (L : List Int) (hL : IS w v L) (hl : L.length ≤ 9223372036854775807) (p : Option Addr) (n c : Nat) (R : Gr) (h : GS w p n R) (hn : n ≤ 9223372036854775807) (hrow : ∀ l ∈ R, l.length ≤ 9223372036854775807) (hwf : ∀ l ∈ R, ∀ x ∈ l, (Lit.int .i64 x).wf = true) :
    Calls Try.prog 4 #[v, .slice p n c] w (ER true w) := by
  have H := Lib.hid h; have HL := Lib.hid hL; have Hrow := Lib.hid hrow; have Hwf := Lib.hid hwf
  obtain ⟨pl, cl, rfl, -, -⟩ := hL
  clear h hrow hwf
  go_enter Try.func4, Try.ntmps4
  go_wp2_with (first
    | (go_at_call 8; refine (graph_any w _ L HL.out hl).mono ?_; rintro e w1 ⟨E1, p1, c1, rfl, hg1, hs1, hn1, hr1, hb1⟩; have Hg1 := Lib.hid hg1; have Hs1 := Lib.hid hs1; have Hr1 := Lib.hid hr1; have Hb1 := Lib.hid hb1; have Hn1 := Lib.hid hn1; clear hg1 hs1 hr1 hb1 hn1)
    | (go_at_call 9; refine (small_any w1 p n c R (H.out.below Hb1.out) hn Hrow.out Hwf.out).mono ?_; rintro e w2 ⟨E2, p2, c2, rfl, hg2, hs2, hn2, hr2, hb2⟩; have Hg2 := Lib.hid hg2; have Hs2 := Lib.hid hs2; have Hr2 := Lib.hid hr2; have Hb2 := Lib.hid (Hb1.out.step hb2); have Hn2 := Lib.hid hn2; have Hg12 := Lib.hid (Hg1.out.below hb2); clear hg2 hs2 hr2 hb2 hn2)
    | (go_at_call 14; refine (same_any v6 v7 xs6 w7 Hk6.out.2.1 Hk7.out (by have := Hk6.out.2.2; have := Hn2.out; omega)).mono ?_; rintro e w8 ⟨rfl, hb8⟩; have Hb8 := Lib.hid (Hb7.out.step hb8); clear hb8)
    | (go_at_call 16; refine (refcycle_any w6 p2 _ c2 E2 (Hg25.out.below Hb65.out) Hs2.out).mono ?_; rintro e w7 ⟨xs7, v7, hcy7, rfl, his7, -, hb7⟩; obtain rfl := (hcy7.one Hk6.out.1).symm; have Hk7 := Lib.hid his7; have Hk6 := Lib.hid (And.intro Hk6.out.1 (And.intro (Hk6.out.2.1.below hb7) Hk6.out.2.2)); have Hb7 := Lib.hid (Hb6.out.step hb7); clear hcy7 his7 hb7)
    | (go_at_call 15; refine (cycle_any w5 p2 _ c2 E2 Hg25.out Hs2.out (by have := Hn2.out; omega) Hr2.out).mono ?_; rintro e w6 ⟨xs6, v6, hcy6, rfl, his6, hl6, hb6⟩; have Hk6 := Lib.hid (And.intro hcy6 (And.intro his6 hl6)); have Hb65 := Lib.hid hb6; have Hb6 := Lib.hid (Hb5.out.step hb6); clear hcy6 his6 hl6 hb6)
    | (go_at_call 14; refine (same_any v3 v4 xs3 w4 Hk3.out.2.1 Hk4.out (by have := Hk3.out.2.2; have := Hn1.out; omega)).mono ?_; rintro e w5 ⟨rfl, hb5⟩; have Hg25 := Lib.hid (((Hg2.out.below Hb32.out).below Hb43.out).below hb5); have Hb5 := Lib.hid (Hb4.out.step hb5); clear hb5)
    | (go_at_call 16; refine (refcycle_any w3 p1 _ c1 E1 (Hg12.out.below Hb32.out) Hs1.out).mono ?_; rintro e w4 ⟨xs4, v4, hcy4, rfl, his4, -, hb4⟩; obtain rfl := (hcy4.one Hk3.out.1).symm; have Hk4 := Lib.hid his4; have Hk3 := Lib.hid (And.intro Hk3.out.1 (And.intro (Hk3.out.2.1.below hb4) Hk3.out.2.2)); have Hb43 := Lib.hid hb4; have Hb4 := Lib.hid (Hb3.out.step hb4); clear hcy4 his4 hb4)
    | (go_at_call 15; refine (cycle_any w2 p1 _ c1 E1 Hg12.out Hs1.out (by have := Hn1.out; omega) Hr1.out).mono ?_; rintro e w3 ⟨xs3, v3, hcy3, rfl, his3, hl3, hb3⟩; have Hk3 := Lib.hid (And.intro hcy3 (And.intro his3 hl3)); have Hb32 := Lib.hid hb3; have Hb3 := Lib.hid (Hb2.out.step hb3); clear hcy3 his3 hl3 hb3)
    | (go_at_call 13; refine (awake_any _).mono ?_; rintro e w9 ⟨rfl, hb9⟩; have Hb9 := Lib.hid (Hb8.out.step hb9); clear hb9))
  go_ret
  exact ⟨rfl, Hb9.out⟩
end Go.Proofs.Yteejlibiidiibaa
