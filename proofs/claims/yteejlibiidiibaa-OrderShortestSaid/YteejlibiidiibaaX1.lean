/-
  Walks: the law on components.
-/
import Derived.Test.YteejlibiidiibaaW4
namespace Go.Proofs.Yteejlibiidiibaa
open Go.RowKit
set_option maxRecDepth 100000
theorem Topo.take {E : Gr} {out : Gr} (h : Topo E out) (t : Nat) : Topo E (out.take t) := by
  intro s C hs
  rw [List.getElem?_take] at hs
  split at hs
  · rename_i hst
    have := h s C hs
    rwa [List.take_take, Nat.min_eq_left (by omega)]
  · cases hs
theorem Topo.lenC {E : Gr} {out : Gr} (h : Topo E out) : ∀ t, t ≤ out.length → t ≤ cnt E.length (dnB (out.take t)) := by
  intro t
  induction t with
  | zero => intro _; omega
  | succ t ih =>
    intro ht
    have h1 := ih (by omega)
    obtain ⟨i, hi, hC, hn, _⟩ := h t _ (List.getElem?_eq_getElem (by omega))
    rw [List.take_succ_eq_append_getElem (by omega), hC, TopoAt.cnt hn fun k j hm hk => (h.take t).closed hm hk]
    have : 0 < (cls E i).length := List.length_pos_of_mem (mem_cls.2 ⟨i, rfl, Mut.refl hi⟩)
    omega
theorem Topo.len {E : Gr} {out : Gr} (h : Topo E out) : out.length ≤ E.length := Nat.le_trans (h.lenC out.length (Nat.le_refl _)) (cnt_le _ _)
theorem Topo.rows {E : Gr} {out : Gr} (h : Topo E out) : ∀ l ∈ out, l.length ≤ E.length := fun l hl => by
  obtain ⟨t, ht, e⟩ := List.mem_iff_getElem.1 hl
  obtain ⟨i, _, hC, _⟩ := h t _ (List.getElem?_eq_getElem ht)
  rw [← e, hC]
  exact marked_len _ _
set_option maxHeartbeats 16000000 in
theorem components_any (w : World) (v : Value) (L : List Int) (hL : IS w v L) (hl : L.length ≤ 9223372036854775807) (p : Option Addr) (n c : Nat) (R : Gr) (h : GS w p n R) (hn : n ≤ 9223372036854775807) (hrow : ∀ l ∈ R, l.length ≤ 9223372036854775807) (hwf : ∀ l ∈ R, ∀ x ∈ l, (Lit.int .i64 x).wf = true) :
    Calls Try.prog 3 #[v, .slice p n c] w (ER true w) := by
  have H := Lib.hid h; have HL := Lib.hid hL; have Hrow := Lib.hid hrow; have Hwf := Lib.hid hwf
  obtain ⟨pl, cl, rfl, -, -⟩ := hL
  clear h hrow hwf
  go_enter Try.func3, Try.ntmps3
  go_wp2_with (first
    | (go_at_call 8; refine (graph_any w _ L HL.out hl).mono ?_; rintro e w1 ⟨E1, p1, c1, rfl, hg1, hs1, hn1, hr1, hb1⟩; have Hg1 := Lib.hid hg1; have Hs1 := Lib.hid hs1; have Hr1 := Lib.hid hr1; have Hb1 := Lib.hid hb1; have Hn1 := Lib.hid hn1; clear hg1 hs1 hr1 hb1 hn1)
    | (go_at_call 9; refine (small_any w1 p n c R (H.out.below Hb1.out) hn Hrow.out Hwf.out).mono ?_; rintro e w2 ⟨E2, p2, c2, rfl, hg2, hs2, hn2, hr2, hb2⟩; have Hg2 := Lib.hid hg2; have Hs2 := Lib.hid hs2; have Hr2 := Lib.hid hr2; have Hb2 := Lib.hid (Hb1.out.step hb2); have Hn2 := Lib.hid hn2; have Hg12 := Lib.hid (Hg1.out.below hb2); clear hg2 hs2 hr2 hb2 hn2)
    | (go_at_call 10; refine (sameall_any w7 p6 p7 _ c6 c7 out6 (Hk6.out.1.below Hb76.out) Hk7.out.1 (by have := Hk6.out.2.1.len; have := Hn2.out; omega) (fun l hl => by have := Hk6.out.2.1.rows l hl; have := Hn2.out; omega)).mono ?_; rintro e w8 ⟨rfl, hb8⟩; have Hb8 := Lib.hid (Hb7.out.step hb8); clear hb8)
    | (go_at_call 12; refine (refcomps_any w6 p2 _ c2 E2 (Hg25.out.below Hb65.out) Hs2.out (by have := Hn2.out; omega)).mono ?_; rintro e w7 ⟨out7, p7, c7, rfl, hg7, ht7, ha7, hb7⟩; obtain rfl := (ht7.unique Hk6.out.2.1 ha7 Hk6.out.2.2).symm; have Hk7 := Lib.hid (And.intro hg7 ht7); have Hb76 := Lib.hid hb7; have Hb7 := Lib.hid (Hb6.out.step hb7); clear hg7 ht7 ha7 hb7)
    | (go_at_call 11; refine (comps_any w5 p2 _ c2 E2 Hg25.out Hs2.out (by have := Hn2.out; omega) Hr2.out).mono ?_; rintro e w6 ⟨out6, p6, c6, rfl, hg6, ht6, ha6, hb6⟩; have Hk6 := Lib.hid (And.intro hg6 (And.intro ht6 ha6)); have Hb65 := Lib.hid hb6; have Hb6 := Lib.hid (Hb5.out.step hb6); clear hg6 ht6 ha6 hb6)
    | (go_at_call 10; go_loud (refine (sameall_any w4 p3 p4 _ c3 c4 out3 (Hk3.out.1.below Hb43.out) Hk4.out.1 (by have := Hk3.out.2.1.len; have := Hn1.out; omega) (fun l hl => by have := Hk3.out.2.1.rows l hl; have := Hn1.out; omega)).mono ?_); rintro e w5 ⟨rfl, hb5⟩; have Hg25 := Lib.hid (((Hg2.out.below Hb32.out).below Hb43.out).below hb5); have Hb5 := Lib.hid (Hb4.out.step hb5); clear hb5)
    | (go_at_call 12; refine (refcomps_any w3 p1 _ c1 E1 (Hg12.out.below Hb32.out) Hs1.out (by have := Hn1.out; omega)).mono ?_; rintro e w4 ⟨out4, p4, c4, rfl, hg4, ht4, ha4, hb4⟩; obtain rfl := (ht4.unique Hk3.out.2.1 ha4 Hk3.out.2.2).symm; have Hk4 := Lib.hid (And.intro hg4 ht4); have Hb43 := Lib.hid hb4; have Hb4 := Lib.hid (Hb3.out.step hb4); clear hg4 ht4 ha4 hb4)
    | (go_at_call 11; refine (comps_any w2 p1 _ c1 E1 Hg12.out Hs1.out (by have := Hn1.out; omega) Hr1.out).mono ?_; rintro e w3 ⟨out3, p3, c3, rfl, hg3, ht3, ha3, hb3⟩; have Hk3 := Lib.hid (And.intro hg3 (And.intro ht3 ha3)); have Hb32 := Lib.hid hb3; have Hb3 := Lib.hid (Hb2.out.step hb3); clear hg3 ht3 ha3 hb3)
    | (go_at_call 13; refine (awake_any _).mono ?_; rintro e w9 ⟨rfl, hb9⟩; have Hb9 := Lib.hid (Hb8.out.step hb9); clear hb9))
  go_ret
  exact ⟨rfl, Hb9.out⟩
end Go.Proofs.Yteejlibiidiibaa
