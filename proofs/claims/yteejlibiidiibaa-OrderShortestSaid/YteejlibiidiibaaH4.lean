/-
  Walks: container/heap over ready: Pop.
-/
import Derived.Test.YteejlibiidiibaaH3
namespace Go.Proofs.Yteejlibiidiibaa
open Go.RowKit
set_option maxRecDepth 100000
theorem down_start {xs : List Int} {m : Nat} (h : Heap xs xs.length) (hl : xs.length = m + 1) : HDn (swp xs 0 m) m 0 := by
  refine ⟨by rw [swp_len]; omega, fun k hk h0 hne => ?_, fun k _ _ _ h0 => by omega⟩
  rw [swp_get (by omega) (by omega), swp_get (by omega) (by omega), if_neg (by omega), if_neg hne, if_neg (by omega), if_neg (by omega)]
  exact h k (by omega) h0
/-- How Pop ends. -/
def QR (rb B : Nat) (xs : List Int) (w : World) (e : Ending) (w' : World) : Prop := ∃ x zs v, e = .returned (.iface 3 (.int .i64 x)) ∧ xs.Perm (x :: zs) ∧ (∀ y ∈ xs, x ≤ y) ∧ Heap zs zs.length ∧ RY rb B zs v w' ∧ YF rb B w w'
theorem pop_parts {xs zs : List Int} {m : Nat} (h : Heap xs xs.length) (hl : xs.length = m + 1) (hp : zs.Perm (swp xs 0 m)) (hz : Heap zs m) (ht : ∀ k, m ≤ k → gt zs k = gt (swp xs 0 m) k) :
    zs = zs.take m ++ [gt xs 0] ∧ xs.Perm (gt xs 0 :: zs.take m) ∧ (∀ y ∈ xs, gt xs 0 ≤ y) ∧ Heap (zs.take m) (zs.take m).length := by
  have hzl : zs.length = m + 1 := by rw [hp.length_eq, swp_len, hl]
  have h1 := ht m (Nat.le_refl _)
  rw [swp_get (by omega) (by omega), if_pos rfl, gt_at (by omega)] at h1
  have e1 : zs = zs.take m ++ [gt xs 0] := by
    have : zs.take (m + 1) = zs.take m ++ [zs[m]] := List.take_succ_eq_append_getElem (by omega)
    rw [List.take_of_length_le (by omega), h1] at this
    exact this
  refine ⟨e1, ?_, fun y hy => ?_, fun k hk h0 => ?_⟩
  · have h2 : xs.Perm zs := (swp_perm (by omega) (by omega)).symm.trans hp.symm
    rw [e1] at h2
    exact h2.trans List.perm_append_comm
  · obtain ⟨k, hk, e⟩ := List.mem_iff_getElem.1 hy
    have := h.min k hk
    rw [gt_at hk, e] at this; exact this
  · have hkm : k < m := by simp at hk; omega
    have := hz k hkm h0
    have e2 : ∀ q, q < m → gt (zs.take m) q = gt zs q := fun q hq => by simp [gt, List.getElem?_take, hq]
    rw [e2 _ (by omega), e2 _ hkm]; exact this
set_option maxHeartbeats 16000000 in
theorem pop_any (rb B m : Nat) (xs : List Int) (v : Value) (w : World) (h : RY rb B xs v w) (hh : Heap xs xs.length) (hl : xs.length = m + 1) (hm : m ≤ 900000) :
    Calls Try.prog 26 #[.iface 41 (.pointer (some ⟨rb, 0, none⟩))] w (QR rb B xs w) := by
  obtain ⟨pv, cv, rfl⟩ := own_slice h.own
  have hml := m_len w rb _ (one_cell h.blk)
  have hms := m_swap w rb _ (one_cell h.blk)
  have hmp := fun w => m_pop w ⟨rb, 0, none⟩
  have hcl := len42_any pv xs.length cv w
  have hsw := swap_any B pv cv xs 0 m w h.own (by omega) (by omega) (by omega)
  have H := Lib.hid h; have Hh := Lib.hid hh
  have Hd := Lib.hid (down_start hh hl)
  have Hcl := Lib.hid hcl; have Hsw := Lib.hid hsw
  have Hl := Lib.hid hl
  rw [hl] at hml hms Hcl Hsw
  clear h hh hcl hsw hl
  go_enter Try.func26, Try.ntmps26
  go_upto_region 3 with (first
    | (go_at_call 25; refine Hcl.out.mono ?_; rintro e w2 ⟨rfl, rfl⟩)
    | (go_at_call 84; refine Hsw.out.mono ?_; rintro e w3 ⟨rfl, ho3, g3, hg3, ht3⟩; have Ho3 := Lib.hid ho3; have Hg3 := Lib.hid hg3; have Ht3 := Lib.hid ht3; clear ho3 hg3 ht3))
  have hg4 : (Value.slice pv xs.length cv).ownBlock = some g3 := by rw [Hg3.out]; rfl
  have R3 := H.out.swap (ys := swp xs 0 m) hg4 Ht3.out (by rw [Hl.out]; exact Ho3.out) (swp_len _ _ _)
  have Hf3 := Lib.hid (YF.of_tch H.out hg4 Ht3.out)
  have hcd := down_any rb B m (swp xs 0 m) _ w3 R3 Hd.out (by rw [swp_len, Hl.out]; omega)
  have Hcd := Lib.hid hcd
  clear hml hms hg4 R3 hcd
  go_upto_region 4 with (go_at_call 37; refine Hcd.out.mono ?_; rintro e w4 ⟨zs, v4, b4, rfl, h1, h2, h3, h4, h5⟩; have H1 := Lib.hid h1; have H2 := Lib.hid h2; have H3 := Lib.hid h3; have H4 := Lib.hid h4; have H5 := Lib.hid h5; clear h1 h2 h3 h4 h5)
  obtain ⟨e1, p1, p2, p3⟩ := pop_parts Hh.out Hl.out H1.out H2.out H3.out
  have hr4 := H4.out
  rw [e1] at hr4
  have P1 := Lib.hid p1; have P2 := Lib.hid p2; have P3 := Lib.hid p3; have R4 := Lib.hid hr4
  generalize zs.take m = ys at *
  generalize gt xs 0 = x at *
  have hyl : ys.length ≤ 1000000 := by have := P1.out.length_eq; rw [Hl.out] at this; simp at this; omega
  clear e1 p1 p2 p3 hr4
  go_wp2_with (go_at_call 82; refine (rpop_any rb B ys x v4 w4 R4.out hyl).mono ?_; rintro e w5 ⟨v5, rfl, q1, q2, q3⟩; have Q1 := Lib.hid q1; have Q2 := Lib.hid (YF.mk q2 q3); clear q1 q2 q3)
  go_ret
  exact ⟨x, ys, v5, rfl, P1.out, P2.out, P3.out, Q1.out, (Hf3.out.trans H5.out).trans Q2.out⟩
end Go.Proofs.Yteejlibiidiibaa
