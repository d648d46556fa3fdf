/-
  Walks: container/heap over ready: Push, down, Pop.
-/
import Derived.Test.YteejlibiidiibaaH2
namespace Go.Proofs.Yteejlibiidiibaa
open Go.RowKit
set_option maxRecDepth 100000
theorem heap_snoc {xs : List Int} {x : Int} (h : Heap xs xs.length) : HUp (xs ++ [x]) xs.length := by
  refine ⟨by simp, fun k hk h0 hne => ?_, fun k hk h0 he _ => ?_⟩
  · simp at hk
    have h1 := h k (by omega) h0
    have e : ∀ m, m < xs.length → gt (xs ++ [x]) m = gt xs m := fun m hm => by simp [gt, List.getElem?_append_left hm]
    rw [e _ (by omega), e _ (by omega)]; exact h1
  · simp at hk; omega
def PR (rb B : Nat) (xs : List Int) (x : Int) (w : World) (e : Ending) (w' : World) : Prop := ∃ ys v, e = .returned (.tuple #[]) ∧ ys.Perm (x :: xs) ∧ Heap ys ys.length ∧ RY rb B ys v w' ∧ YF rb B w w'
set_option maxHeartbeats 8000000 in
theorem push_any (rb B : Nat) (xs : List Int) (x : Int) (v : Value) (w : World) (h : RY rb B xs v w) (hh : Heap xs xs.length) (hl : xs.length ≤ 900000) :
    Calls Try.prog 24 #[.iface 41 (.pointer (some ⟨rb, 0, none⟩)), .iface 3 (.int .i64 x)] w (PR rb B xs x w) := by
  have H := Lib.hid h; have Hh := Lib.hid hh
  have hmp := fun w => m_push w ⟨rb, 0, none⟩
  clear h hh
  go_enter Try.func24, Try.ntmps24
  go_upto_region 1 with (go_at_call 83; refine (rpush_any rb B xs x v w H.out (by omega)).mono ?_; rintro e w2 ⟨v2, rfl, h2, h3, h4⟩; have H2 := Lib.hid h2; have Hf := Lib.hid (YF.mk h3 h4); clear h2 h3 h4)
  obtain ⟨p2, c2, rfl⟩ := own_slice H2.out.own
  have hml := m_len w2 rb _ (one_cell H2.out.blk)
  have hlen : (xs ++ [x]).length = xs.length + 1 := by simp
  rw [hlen] at hml
  have hcl := len42_any p2 (xs.length + 1) c2 w2
  have hcu := up_any rb B (xs ++ [x]) _ xs.length w2 H2.out (heap_snoc Hh.out) (by simp; omega)
  have Hcl := Lib.hid hcl; have Hcu := Lib.hid hcu
  clear hcl hcu hlen
  go_wp2_with (first
    | (go_at_call 25; refine Hcl.out.mono ?_; rintro e w3 ⟨rfl, rfl⟩)
    | (go_at_call 36; refine Hcu.out.mono ?_; rintro e w3 ⟨ys, v3, rfl, h1, h2, h3, h4⟩; have H1 := Lib.hid h1; have H3 := Lib.hid h2; have H4 := Lib.hid h3; have H5 := Lib.hid h4; clear h1 h2 h3 h4))
  go_end0
  exact ⟨ys, v3, rfl, H1.out.trans (List.perm_append_comm), H3.out, H4.out, Hf.out.trans H5.out⟩
/-- How down ends. -/
def NR (rb B n : Nat) (xs : List Int) (w : World) (e : Ending) (w' : World) : Prop := ∃ ys v b, e = .returned (.bool b) ∧ ys.Perm xs ∧ Heap ys n ∧ (∀ k, n ≤ k → gt ys k = gt xs k) ∧ RY rb B ys v w' ∧ YF rb B w w'
theorem swp_tail {xs : List Int} {i j n : Nat} (hi : i < n) (hj : j < n) (hn : n ≤ xs.length) : ∀ k, n ≤ k → gt (swp xs i j) k = gt xs k := fun k hk => by
  rw [swp_get (by omega) (by omega), if_neg (by omega), if_neg (by omega)]
set_option maxHeartbeats 32000000 in
theorem down_any (rb B n : Nat) (xs : List Int) (v : Value) (w : World) (h : RY rb B xs v w) (hd : HDn xs n 0) (hl : xs.length ≤ 1000000) :
    Calls Try.prog 37 #[.iface 41 (.pointer (some ⟨rb, 0, none⟩)), .int .i64 0, .int .i64 n] w (NR rb B n xs w) := by
  have H := Lib.hid h; have Hd := Lib.hid hd
  have hnx := hd.le
  clear h hd
  go_enter Try.func37, Try.ntmps37
  go_wp2
  go_loopw [7] (fun a wr => ∃ (i : Nat) (ys : List Int) (v : Value), a = .int .i64 i ∧ i ≤ n ∧ ys.Perm xs ∧ HDn ys n i ∧ (∀ k, n ≤ k → gt ys k = gt xs k) ∧ RY rb B ys v wr ∧ YF rb B w wr) (fun a _ => n - (intOf a).toNat)
  case atStart => exact ⟨0, xs, v, rfl, by omega, List.Perm.refl _, Hd.out, fun _ _ => rfl, H.out, YF.refl _ _ _⟩
  case round =>
    obtain ⟨i, ys, v, rfl, hin, hp, hu, ht, hr, hf⟩ := hrel
    have hlen : ys.length = xs.length := hp.length_eq
    have hyl : ys.length ≤ 1000000 := by omega
    have hny : n ≤ ys.length := by omega
    obtain ⟨pv, cv, rfl⟩ := own_slice hr.own
    have hml := fun (w : World) (z : w.cell? ⟨rb, 0, none⟩ = some (.slice pv ys.length cv)) => m_less w rb _ z
    have hms := fun (w : World) (z : w.cell? ⟨rb, 0, none⟩ = some (.slice pv ys.length cv)) => m_swap w rb _ z
    have z0 := one_cell hr.blk
    have Hp := Lib.hid hp; have Hu := Lib.hid hu; have Ht := Lib.hid ht; have Hr := Lib.hid hr; have Hf := Lib.hid hf
    have Hml := Lib.hid hml; have Hms := Lib.hid hms
    clear hp hu ht hr hf hlen hml hms
    by_cases h1 : 2 * i + 1 < n
    · have a1 : decide ((n : Int) ≤ 2 * (i : Int) + 1) = false := by rw [decide_eq_false_iff_not]; omega
      have a2 : decide (2 * (i : Int) + 1 < 0) = false := by rw [decide_eq_false_iff_not]; omega
      have e1 : ((2 * i + 1 : Nat) : Int) = 2 * (i : Int) + 1 := by omega
      have e2 : ((2 * i + 1 + 1 : Nat) : Int) = 2 * (i : Int) + 1 + 1 := by omega
      have hi : i < ys.length := by omega

      by_cases h2 : 2 * i + 1 + 1 < n
      · have a3 : decide (2 * (i : Int) + 1 + 1 < (n : Int)) = true := by rw [decide_eq_true_iff]; omega
        by_cases hb : gt ys (2 * i + 1 + 1) < gt ys (2 * i + 1)
        · by_cases hc : gt ys (2 * i + 1 + 1) < gt ys i
          · have l1 := less_any B pv cv ys (2 * i + 1 + 1) (2 * i + 1) wr Hr.out.own (by omega) (by omega) hyl
            rw [← gt_at (xs := ys) (k := 2 * i + 1 + 1) (by omega), ← gt_at (xs := ys) (k := 2 * i + 1) (by omega), e1, e2] at l1
            rw [show decide (gt ys (2 * i + 1 + 1) < gt ys (2 * i + 1)) = true from by simpa using hb] at l1
            have L1 := Lib.hid l1; clear l1
            have l2 := less_any B pv cv ys (2 * i + 1 + 1) i wr.drew Hr.out.drew.own (by omega) hi hyl
            rw [← gt_at (xs := ys) (k := (2 * i + 1 + 1)) (by omega), ← gt_at (xs := ys) (k := i) hi, e2] at l2
            rw [show decide (gt ys (2 * i + 1 + 1) < gt ys i) = true from by simpa using hc] at l2
            have L2 := Lib.hid l2; clear l2
            have m1 := Hml.out wr z0
            have m2 := Hml.out wr.drew z0
            have kd : ∀ k, k < n → 0 < k → (k - 1) / 2 = i → gt ys (2 * i + 1 + 1) ≤ gt ys k := by
              intro k hk h0 he
              have hk2 : k = 2 * i + 1 ∨ k = 2 * i + 1 + 1 := by omega
              rcases hk2 with rfl | rfl <;> omega
            have sw := swap_any B pv cv ys i (2 * i + 1 + 1) wr.drew.drew Hr.out.drew.drew.own hi (by omega) hyl
            rw [e2] at sw
            have SW := Lib.hid sw; clear sw
            have m3 := Hms.out wr.drew.drew z0
            have st := Hu.out.step (j := (2 * i + 1 + 1)) (by omega) (by omega) (by omega) kd hc
            have ST := Lib.hid st; clear st
            have Hk := Lib.hid (show Value.int .i64 (2 * (i : Int) + 1 + 1) = .int .i64 ((2 * i + 1 + 1) : Nat) by rw [e2])
            clear e1 e2 kd hc hb
            go_wp2_with (first
              | (go_at_call 81; (with_reducible refine L1.out.mono ?_); rintro e w2 ⟨rfl, rfl⟩)
              | (go_at_call 81; (with_reducible refine L2.out.mono ?_); rintro e w2 ⟨rfl, rfl⟩)
              | (go_at_call 84; (with_reducible refine SW.out.mono ?_); rintro e w3 ⟨rfl, ho3, g3, hg3, ht3⟩; have Ho3 := Lib.hid ho3; have Hg3 := Lib.hid hg3; have Ht3 := Lib.hid ht3; clear ho3 hg3 ht3))
            have hg4 : (Value.slice pv ys.length cv).ownBlock = some g3 := by rw [Hg3.out]; rfl
            exact ⟨⟨(2 * i + 1 + 1), swp ys i (2 * i + 1 + 1), _, Hk.out, by omega, (swp_perm hi (by omega)).trans Hp.out, ST.out, fun k hk => (swp_tail (n := n) (by omega) (by omega) hny k hk).trans (Ht.out k hk), Hr.out.drew.drew.swap hg4 Ht3.out Ho3.out (swp_len _ _ _), Hf.out.drew.drew.trans (YF.of_tch Hr.out.drew.drew hg4 Ht3.out)⟩, by simp [intOf]; omega⟩
          · have l1 := less_any B pv cv ys (2 * i + 1 + 1) (2 * i + 1) wr Hr.out.own (by omega) (by omega) hyl
            rw [← gt_at (xs := ys) (k := 2 * i + 1 + 1) (by omega), ← gt_at (xs := ys) (k := 2 * i + 1) (by omega), e1, e2] at l1
            rw [show decide (gt ys (2 * i + 1 + 1) < gt ys (2 * i + 1)) = true from by simpa using hb] at l1
            have L1 := Lib.hid l1; clear l1
            have l2 := less_any B pv cv ys (2 * i + 1 + 1) i wr.drew Hr.out.drew.own (by omega) hi hyl
            rw [← gt_at (xs := ys) (k := (2 * i + 1 + 1)) (by omega), ← gt_at (xs := ys) (k := i) hi, e2] at l2
            rw [show decide (gt ys (2 * i + 1 + 1) < gt ys i) = false from by simpa using hc] at l2
            have L2 := Lib.hid l2; clear l2
            have m1 := Hml.out wr z0
            have m2 := Hml.out wr.drew z0
            have kd : ∀ k, k < n → 0 < k → (k - 1) / 2 = i → gt ys i ≤ gt ys k := by
              intro k hk h0 he
              have hk2 : k = 2 * i + 1 ∨ k = 2 * i + 1 + 1 := by omega
              rcases hk2 with rfl | rfl <;> omega
            have st := Hu.out.stop kd
            have ST := Lib.hid st; clear st
            clear e1 e2 kd hc hb
            go_wp2_with (first
              | (go_at_call 81; (with_reducible refine L1.out.mono ?_); rintro e w2 ⟨rfl, rfl⟩)
              | (go_at_call 81; (with_reducible refine L2.out.mono ?_); rintro e w2 ⟨rfl, rfl⟩))
            go_ret
            exact ⟨ys, _, _, rfl, Hp.out, ST.out, Ht.out, Hr.out.drew.drew, Hf.out.drew.drew⟩
        · by_cases hc : gt ys (2 * i + 1) < gt ys i
          · have l1 := less_any B pv cv ys (2 * i + 1 + 1) (2 * i + 1) wr Hr.out.own (by omega) (by omega) hyl
            rw [← gt_at (xs := ys) (k := 2 * i + 1 + 1) (by omega), ← gt_at (xs := ys) (k := 2 * i + 1) (by omega), e1, e2] at l1
            rw [show decide (gt ys (2 * i + 1 + 1) < gt ys (2 * i + 1)) = false from by simpa using hb] at l1
            have L1 := Lib.hid l1; clear l1
            have l2 := less_any B pv cv ys (2 * i + 1) i wr.drew Hr.out.drew.own (by omega) hi hyl
            rw [← gt_at (xs := ys) (k := (2 * i + 1)) (by omega), ← gt_at (xs := ys) (k := i) hi, e1] at l2
            rw [show decide (gt ys (2 * i + 1) < gt ys i) = true from by simpa using hc] at l2
            have L2 := Lib.hid l2; clear l2
            have m1 := Hml.out wr z0
            have m2 := Hml.out wr.drew z0
            have kd : ∀ k, k < n → 0 < k → (k - 1) / 2 = i → gt ys (2 * i + 1) ≤ gt ys k := by
              intro k hk h0 he
              have hk2 : k = 2 * i + 1 ∨ k = 2 * i + 1 + 1 := by omega
              rcases hk2 with rfl | rfl <;> omega
            have sw := swap_any B pv cv ys i (2 * i + 1) wr.drew.drew Hr.out.drew.drew.own hi (by omega) hyl
            rw [e1] at sw
            have SW := Lib.hid sw; clear sw
            have m3 := Hms.out wr.drew.drew z0
            have st := Hu.out.step (j := (2 * i + 1)) (by omega) (by omega) (by omega) kd hc
            have ST := Lib.hid st; clear st
            have Hk := Lib.hid (show Value.int .i64 (2 * (i : Int) + 1) = .int .i64 ((2 * i + 1) : Nat) by rw [e1])
            clear e1 e2 kd hc hb
            go_wp2_with (first
              | (go_at_call 81; (with_reducible refine L1.out.mono ?_); rintro e w2 ⟨rfl, rfl⟩)
              | (go_at_call 81; (with_reducible refine L2.out.mono ?_); rintro e w2 ⟨rfl, rfl⟩)
              | (go_at_call 84; (with_reducible refine SW.out.mono ?_); rintro e w3 ⟨rfl, ho3, g3, hg3, ht3⟩; have Ho3 := Lib.hid ho3; have Hg3 := Lib.hid hg3; have Ht3 := Lib.hid ht3; clear ho3 hg3 ht3))
            have hg4 : (Value.slice pv ys.length cv).ownBlock = some g3 := by rw [Hg3.out]; rfl
            exact ⟨⟨(2 * i + 1), swp ys i (2 * i + 1), _, Hk.out, by omega, (swp_perm hi (by omega)).trans Hp.out, ST.out, fun k hk => (swp_tail (n := n) (by omega) (by omega) hny k hk).trans (Ht.out k hk), Hr.out.drew.drew.swap hg4 Ht3.out Ho3.out (swp_len _ _ _), Hf.out.drew.drew.trans (YF.of_tch Hr.out.drew.drew hg4 Ht3.out)⟩, by simp [intOf]; omega⟩
          · have l1 := less_any B pv cv ys (2 * i + 1 + 1) (2 * i + 1) wr Hr.out.own (by omega) (by omega) hyl
            rw [← gt_at (xs := ys) (k := 2 * i + 1 + 1) (by omega), ← gt_at (xs := ys) (k := 2 * i + 1) (by omega), e1, e2] at l1
            rw [show decide (gt ys (2 * i + 1 + 1) < gt ys (2 * i + 1)) = false from by simpa using hb] at l1
            have L1 := Lib.hid l1; clear l1
            have l2 := less_any B pv cv ys (2 * i + 1) i wr.drew Hr.out.drew.own (by omega) hi hyl
            rw [← gt_at (xs := ys) (k := (2 * i + 1)) (by omega), ← gt_at (xs := ys) (k := i) hi, e1] at l2
            rw [show decide (gt ys (2 * i + 1) < gt ys i) = false from by simpa using hc] at l2
            have L2 := Lib.hid l2; clear l2
            have m1 := Hml.out wr z0
            have m2 := Hml.out wr.drew z0
            have kd : ∀ k, k < n → 0 < k → (k - 1) / 2 = i → gt ys i ≤ gt ys k := by
              intro k hk h0 he
              have hk2 : k = 2 * i + 1 ∨ k = 2 * i + 1 + 1 := by omega
              rcases hk2 with rfl | rfl <;> omega
            have st := Hu.out.stop kd
            have ST := Lib.hid st; clear st
            clear e1 e2 kd hc hb
            go_wp2_with (first
              | (go_at_call 81; (with_reducible refine L1.out.mono ?_); rintro e w2 ⟨rfl, rfl⟩)
              | (go_at_call 81; (with_reducible refine L2.out.mono ?_); rintro e w2 ⟨rfl, rfl⟩))
            go_ret
            exact ⟨ys, _, _, rfl, Hp.out, ST.out, Ht.out, Hr.out.drew.drew, Hf.out.drew.drew⟩
      · have a3 : decide (2 * (i : Int) + 1 + 1 < (n : Int)) = false := by rw [decide_eq_false_iff_not]; omega
        by_cases hc : gt ys (2 * i + 1) < gt ys i
        · have l2 := less_any B pv cv ys (2 * i + 1) i wr Hr.out.own (by omega) hi hyl
          rw [← gt_at (xs := ys) (k := (2 * i + 1)) (by omega), ← gt_at (xs := ys) (k := i) hi, e1] at l2
          rw [show decide (gt ys (2 * i + 1) < gt ys i) = true from by simpa using hc] at l2
          have L2 := Lib.hid l2; clear l2
          have m1 := Hml.out wr z0
          have kd : ∀ k, k < n → 0 < k → (k - 1) / 2 = i → gt ys (2 * i + 1) ≤ gt ys k := by
            intro k hk h0 he
            have hk2 : k = 2 * i + 1 ∨ k = 2 * i + 1 + 1 := by omega
            rcases hk2 with rfl | rfl <;> omega
          have sw := swap_any B pv cv ys i (2 * i + 1) wr.drew Hr.out.drew.own hi (by omega) hyl
          rw [e1] at sw
          have SW := Lib.hid sw; clear sw
          have m3 := Hms.out wr.drew z0
          have st := Hu.out.step (j := (2 * i + 1)) (by omega) (by omega) (by omega) kd hc
          have ST := Lib.hid st; clear st
          have Hk := Lib.hid (show Value.int .i64 (2 * (i : Int) + 1) = .int .i64 ((2 * i + 1) : Nat) by rw [e1])
          clear e1 e2 kd hc
          go_wp2_with (first
            | (go_at_call 81; (with_reducible refine L2.out.mono ?_); rintro e w2 ⟨rfl, rfl⟩)
            | (go_at_call 84; (with_reducible refine SW.out.mono ?_); rintro e w3 ⟨rfl, ho3, g3, hg3, ht3⟩; have Ho3 := Lib.hid ho3; have Hg3 := Lib.hid hg3; have Ht3 := Lib.hid ht3; clear ho3 hg3 ht3))
          have hg4 : (Value.slice pv ys.length cv).ownBlock = some g3 := by rw [Hg3.out]; rfl
          exact ⟨⟨(2 * i + 1), swp ys i (2 * i + 1), _, Hk.out, by omega, (swp_perm hi (by omega)).trans Hp.out, ST.out, fun k hk => (swp_tail (n := n) (by omega) (by omega) hny k hk).trans (Ht.out k hk), Hr.out.drew.swap hg4 Ht3.out Ho3.out (swp_len _ _ _), Hf.out.drew.trans (YF.of_tch Hr.out.drew hg4 Ht3.out)⟩, by simp [intOf]; omega⟩
        · have l2 := less_any B pv cv ys (2 * i + 1) i wr Hr.out.own (by omega) hi hyl
          rw [← gt_at (xs := ys) (k := (2 * i + 1)) (by omega), ← gt_at (xs := ys) (k := i) hi, e1] at l2
          rw [show decide (gt ys (2 * i + 1) < gt ys i) = false from by simpa using hc] at l2
          have L2 := Lib.hid l2; clear l2
          have m1 := Hml.out wr z0
          have kd : ∀ k, k < n → 0 < k → (k - 1) / 2 = i → gt ys i ≤ gt ys k := by
            intro k hk h0 he
            have hk2 : k = 2 * i + 1 ∨ k = 2 * i + 1 + 1 := by omega
            rcases hk2 with rfl | rfl <;> omega
          have st := Hu.out.stop kd
          have ST := Lib.hid st; clear st
          clear e1 e2 kd hc
          go_wp2_with (first
            | (go_at_call 81; (with_reducible refine L2.out.mono ?_); rintro e w2 ⟨rfl, rfl⟩))
          go_ret
          exact ⟨ys, _, _, rfl, Hp.out, ST.out, Ht.out, Hr.out.drew, Hf.out.drew⟩
    · have a1 : decide ((n : Int) ≤ 2 * (i : Int) + 1) = true := by rw [decide_eq_true_iff]; omega
      have st := Hu.out.stop (fun k hk h0 he => by omega)
      have ST := Lib.hid st; clear st
      go_wp2
      go_ret
      exact ⟨ys, _, _, rfl, Hp.out, ST.out, Ht.out, Hr.out, Hf.out⟩
end Go.Proofs.Yteejlibiidiibaa
