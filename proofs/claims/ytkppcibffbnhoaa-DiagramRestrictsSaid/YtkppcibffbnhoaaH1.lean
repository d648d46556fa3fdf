/-
  Walks: drawn.
-/
import Derived.Test.YtkppcibffbnhoaaG9
namespace Go.Proofs.Ytkppcibffbnhoaa
open Go.RowKit
set_option maxRecDepth 100000

/-- What drawn answers. -/
def DR (ps : List IP) (w : World) (e : Ending) (w' : World) : Prop :=
  (e = .returned (.tuple #[.agg #[.slice none 0 0, .int .i64 0], .bool false]) ∧ Below w.heap.size w w') ∨
  (∃ v t, e = .returned (.tuple #[v, .bool true]) ∧ DV w' v t ∧ (∀ M, M < 4096 → t.ev (bitsF M) = ps.any (holdsP M)) ∧ Below w.heap.size w w')
/-- The same of OfPaths, in parts. -/
theorem OR.parts {ps : List IP} {w : World} {e : Ending} {w' : World} (h : OR ps w e w') : ∃ p m c r b, e = .returned (.tuple #[.agg #[.slice p m c, .int .i64 r], .bool b]) ∧ Below w.heap.size w w' ∧
    ((b = false ∧ Value.slice p m c = .slice none 0 0 ∧ Value.int .i64 r = .int .i64 0) ∨ (b = true ∧ ∃ t, DV w' (.agg #[.slice p m c, .int .i64 r]) t ∧ ∀ M, M < 4096 → t.ev (bitsF M) = ps.any (holdsP M))) := by
  rcases h with ⟨-, rfl, hb⟩ | ⟨-, v, t, rfl, hd, hev, hb⟩
  · exact ⟨_, _, _, _, false, rfl, hb, .inl ⟨rfl, rfl, rfl⟩⟩
  · obtain ⟨p, c, rfl, -⟩ := id hd.dd.ex
    exact ⟨_, _, _, _, true, rfl, hb, .inr ⟨rfl, t, hd, hev⟩⟩
set_option maxHeartbeats 8000000 in
theorem drawn_any (P : Option Addr) (n cp : Nat) (ps : List IP) (w : World) (h : PS w P n ps) :
    Calls Try.prog 10 #[.slice P n cp] w (DR ps w) := by
  obtain rfl := h.len
  have hal := (Below.refl w.heap.size w).alloc (Nat.le_refl _) (.cells #[.slice none 0 0, .int .i64 0] 24)
  have hr0 := heap_alloc_new w (.cells #[.slice none 0 0, .int .i64 0] 24)
  have H := Lib.hid (h.below hal); clear h
  by_cases hn : ps.length ≤ 5
  case neg =>
    have f1 : decide (5 < ps.length) = true := by simp; omega
    have f2 : decide ((5 : Int) < (ps.length : Int)) = true := by simp; omega
    have Hal := Lib.hid hal; have Hr0 := Lib.hid hr0; clear hal hr0
    go_enter Try.func10, Try.ntmps10
    go_upto_region 1 with fail
    generalize w.alloc (.cells #[.slice none 0 0, .int .i64 0] 24) = w1 at *
    go_wp2_with (first
      | (with_reducible refine wpList_store_row rfl 24 (.tmp 2) (.tmp 8) rfl _ _ rfl rfl _ _ Hr0.out (by kernel_rfl) (by kernel_rfl) (by kernel_rfl) ?_))
    refine bodyPost_ret (run_results_cell_tmp rfl _ _ w.heap.size 24 _ (0, 0) _ rfl (setRow_heap _ _ _ _ _ _ Hr0.out) rfl rfl (by kernel_rfl)) rfl ?_
    exact .inl ⟨rfl, below_setRow Hal.out (Nat.le_refl _)⟩
  have f1 : decide (5 < ps.length) = false := by simp; omega
  have f2 : decide ((5 : Int) < (ps.length : Int)) = false := by simp; omega
  have Hal := Lib.hid hal; have Hr0 := Lib.hid hr0; clear hal hr0
  go_enter Try.func10, Try.ntmps10
  go_upto_region 1 with fail
  generalize w.alloc (.cells #[.slice none 0 0, .int .i64 0] 24) = w1 at *
  go_wp2
  go_loop [4] (fun i => ∃ k : Nat, i = .int .i64 k ∧ k ≤ ps.length ∧ (∀ i (hi : i < ps.length), i < k → (ps[i]).1.length ≤ 6 ∧ (ps[i]).2.length ≤ 6)) (fun i => ps.length - (intOf i).toNat)
  case atStart => exact ⟨0, rfl, by omega, fun i hi h0 => by omega⟩
  case round =>
    obtain ⟨k, rfl, hk, hall⟩ := hrel
    have Hall := Lib.hid hall; clear hall
    by_cases hlt : k < ps.length
    · obtain ⟨a, o, v1, v2, rfl, ha, x0, x1, i1, i2⟩ := H.out.at' k hlt
      have hnx : (ps[k]).1.length ≤ 6 ∧ (ps[k]).2.length ≤ 6 → ∀ i (hi : i < ps.length), i < k + 1 → (ps[i]).1.length ≤ 6 ∧ (ps[i]).2.length ≤ 6 := fun h i hi hik => by
        rcases Nat.lt_succ_iff_lt_or_eq.1 hik with h1 | rfl
        · exact Hall.out i hi h1
        · exact h
      generalize ps[k] = x at *
      obtain ⟨pos, neg⟩ := x
      dsimp only at i1 i2 hnx
      obtain ⟨p1, c1, rfl, hc1, hq1⟩ := i1
      obtain ⟨p2, c2, rfl, hc2, hq2⟩ := i2
      have Hnx := Lib.hid hnx; clear hnx hq1 hq2
      generalize pos.length = n1 at *
      generalize neg.length = n2 at *
      by_cases g1 : n1 ≤ 6
      case neg =>
        have g1' : decide (6 < n1) = true := by simp; omega
        go_wp2_with (first
          | (with_reducible refine wpList_store_row rfl 24 (.tmp 2) (.tmp 31) rfl _ _ rfl rfl _ _ Hr0.out (by kernel_rfl) (by kernel_rfl) (by kernel_rfl) ?_))
        refine bodyPost_ret (run_results_cell_tmp rfl _ _ w.heap.size 24 _ (0, 0) _ rfl (setRow_heap _ _ _ _ _ _ Hr0.out) rfl rfl (by kernel_rfl)) rfl ?_
        exact .inl ⟨rfl, below_setRow Hal.out (Nat.le_refl _)⟩
      have g1' : decide (6 < n1) = false := by simp; omega
      by_cases g2 : n2 ≤ 6
      case neg =>
        have g2' : decide (6 < n2) = true := by simp; omega
        go_wp2_with (first
          | (with_reducible refine wpList_store_row rfl 24 (.tmp 2) (.tmp 31) rfl _ _ rfl rfl _ _ Hr0.out (by kernel_rfl) (by kernel_rfl) (by kernel_rfl) ?_))
        refine bodyPost_ret (run_results_cell_tmp rfl _ _ w.heap.size 24 _ (0, 0) _ rfl (setRow_heap _ _ _ _ _ _ Hr0.out) rfl rfl (by kernel_rfl)) rfl ?_
        exact .inl ⟨rfl, below_setRow Hal.out (Nat.le_refl _)⟩
      have g2' : decide (6 < n2) = false := by simp; omega
      have Hn := Lib.hid (Hnx.out ⟨g1, g2⟩)
      go_wp2
      exact ⟨⟨k + 1, by go_num, by omega, Hn.out⟩, by simp [intOf]; omega⟩
    · obtain rfl : k = ps.length := by omega
      have ho := ofpaths_any P ps.length cp ps w1 H.out (by omega) (fun i hi => by have := Hall.out i hi hi; omega)
      go_wp2_with (first
        | (go_at_call 24; refine (ho.mono fun e w' => OR.parts).mono ?_; rintro e w5 ⟨p5, m5, c5, r5, b, rfl, hb5, hor⟩; have Hr5 := Lib.hid ((hb5.block _ (heap_lt Hr0.out)).trans Hr0.out); have Hb5 := Lib.hid (Hal.out.step hb5); have Hor := Lib.hid hor; clear hb5 hor)
        | (with_reducible refine wpList_store_row rfl 24 (.tmp 2) (.tmp 34) rfl _ _ rfl rfl _ _ Hr5.out (by kernel_rfl) (by kernel_rfl) (by kernel_rfl) ?_))
      refine bodyPost_ret (run_results_cell_tmp rfl _ _ w.heap.size 24 _ (0, 0) _ rfl (setRow_heap _ _ _ _ _ _ Hr5.out) rfl rfl (by kernel_rfl)) rfl ?_
      rcases Hor.out with ⟨rfl, e1, e2⟩ | ⟨rfl, t, hd, hev⟩
      · rw [e1, e2]
        exact .inl ⟨rfl, below_setRow Hb5.out (Nat.le_refl _)⟩
      · exact .inr ⟨_, t, rfl, hd.setRow Hr5.out, hev, below_setRow Hb5.out (Nat.le_refl _)⟩
end Go.Proofs.Ytkppcibffbnhoaa
