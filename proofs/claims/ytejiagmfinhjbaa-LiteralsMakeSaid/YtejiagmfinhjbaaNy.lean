/-
  Walks: awake.
-/
import Derived.Test.YtejiagmfinhjbaaNx
namespace Go.Proofs.Ytejiagmfinhjbaa
open Go.RowKit Go.Ident Go.Names

theorem SL.one (w : World) (x : Nm) (hx : x.length ≤ maxLen) : SL (w.alloc (.cells #[.string (toB x)] 9)) (some ⟨w.heap.size, 0, none⟩) [x] := by
  refine ⟨fun i hi => ?_, by simpa using hx⟩
  obtain rfl : i = 0 := by simpa using hi
  exact ⟨_, 0, rfl, by simp, cell_of_row _ _ _ _ _ _ (heap_alloc_new _ _)⟩
theorem SL.two (w : World) (x y : Nm) (hx : x.length ≤ maxLen) (hy : y.length ≤ maxLen) : SL (w.alloc (.cells #[.string (toB x), .string (toB y)] 9)) (some ⟨w.heap.size, 0, none⟩) [x, y] := by
  refine ⟨fun i hi => ?_, by simp; exact ⟨hx, hy⟩⟩
  match i, hi with
  | 0, _ => exact ⟨_, 0, rfl, by simp, cell_of_row _ _ _ _ _ _ (heap_alloc_new _ _)⟩
  | 1, _ => exact ⟨_, 0, rfl, by simp, cell_of_row _ _ _ _ _ _ (heap_alloc_new _ _)⟩
  | (n + 2), h => exact absurd h (by simp)
theorem nrm_a : nrm [[97]] = [[97]] := (nrm_of (by unfold Asc; decide) (fun _ => Iff.rfl)).symm
theorem nrm_ab : nrm [[97], [98]] = [[97], [98]] := (nrm_of (by unfold Asc; decide) (fun _ => Iff.rfl)).symm
theorem nrm_xy : nrm [[120], [121]] = [[120], [121]] := (nrm_of (by unfold Asc; decide) (fun _ => Iff.rfl)).symm
theorem nrm_e : nrm [[]] = [[]] := (nrm_of (by unfold Asc; decide) (fun _ => Iff.rfl)).symm
theorem nrm_b : nrm [[98]] = [[98]] := (nrm_of (by unfold Asc; decide) (fun _ => Iff.rfl)).symm
theorem nrm_U : nrm (nrm (interL true [[97]] false [[97], [98]])) = [[98]] := by
  have : interL true [[97]] false [[97], [98]] = [[98]] := by
    unfold interL
    rw [nrm_a, nrm_ab]
    decide
  rw [this, nrm_b, nrm_b]
theorem fre_e : frsI 1 true [[]] = ([0], true) := by decide +kernel
theorem NA.step {w0 w : World} {c : Bool} {L : List Nm} {e : Ending} {w' : World} (h : NA w c L e w') (hb : Below w0.heap.size w0 w) : ∃ p cap, e = .returned (.agg #[.bool c, .slice p L.length cap]) ∧ SL w' p L ∧ Below w.heap.size w w' ∧ Below w0.heap.size w0 w' := by
  obtain ⟨p, cap, h1, h2, _, h3⟩ := h
  exact ⟨p, cap, h1, h2, h3, hb.trans (h3.mono hb.size)⟩
set_option maxRecDepth 100000 in
set_option maxHeartbeats 32000000 in
theorem awake_any (w : World) : Calls Try.prog 8 #[] w fun e w' => e = .returned (.bool true) ∧ Below w.heap.size w w' := by
  have al : ∀ (w : World) (o : Obj), Below w.heap.size w (w.alloc o) := fun w o => (Below.refl _ _).alloc (Nat.le_refl _) o
  have hA : ∀ w0 : World, Calls Try.prog 22 #[.slice (some ⟨w0.heap.size, 0, none⟩) 1 1] (w0.alloc (.cells #[.string ⟨#[97]⟩] 9)) fun e w' => ∃ p cap, e = .returned (.agg #[.bool false, .slice p 1 cap]) ∧ SL w' p [[97]] ∧ Below w0.heap.size w0 w' := fun w0 => by
    refine (finite_any (some ⟨w0.heap.size, 0, none⟩) 1 [[97]] (by decide) _ (SL.one w0 [97] (by decide))).mono fun e w' h => ?_
    obtain ⟨p, cap, h1, h2, _, h4⟩ := NA.step h (al w0 _)
    rw [nrm_a] at h1 h2
    exact ⟨p, cap, h1, h2, h4⟩
  have hB : ∀ w0 : World, Calls Try.prog 23 #[.slice (some ⟨w0.heap.size, 0, none⟩) 2 2] (w0.alloc (.cells #[.string ⟨#[97]⟩, .string ⟨#[98]⟩] 9)) fun e w' => ∃ p cap, e = .returned (.agg #[.bool true, .slice p 2 cap]) ∧ SL w' p [[97], [98]] ∧ Below w0.heap.size w0 w' := fun w0 => by
    refine (cofinite_any (some ⟨w0.heap.size, 0, none⟩) 2 [[97], [98]] (by decide) _ (SL.two w0 [97] [98] (by decide) (by decide))).mono fun e w' h => ?_
    obtain ⟨p, cap, h1, h2, _, h4⟩ := NA.step h (al w0 _)
    rw [nrm_ab] at h1 h2
    exact ⟨p, cap, h1, h2, h4⟩
  have hU : ∀ (p1 p2 : Option Addr) (k1 k2 : Nat) (w0 : World), SL w0 p1 [[97]] → SL w0 p2 [[97], [98]] → Calls Try.prog 11 #[.agg #[.bool false, .slice p1 1 k1], .agg #[.bool true, .slice p2 2 k2]] w0 fun e w' => ∃ p cap, e = .returned (.agg #[.bool true, .slice p 1 cap]) ∧ SL w' p [[98]] ∧ Below w0.heap.size w0 w' := fun p1 p2 k1 k2 w0 s1 s2 => by
    refine (union_any false p1 k1 [[97]] (by decide) true p2 k2 [[97], [98]] (by decide) w0 s1 s2).mono fun e w' h => ?_
    obtain ⟨p, cap, h1, h2, _, h4⟩ := NA.step h (Below.refl _ _)
    rw [nrm_a, nrm_ab, show (!false) = true from rfl, show (!true) = false from rfl, nrm_U] at h1 h2
    exact ⟨p, cap, h1, h2, h4⟩
  have hE : ∀ w0 : World, Calls Try.prog 23 #[.slice (some ⟨w0.heap.size, 0, none⟩) 1 1] (w0.alloc (.cells #[.string ⟨#[]⟩] 9)) fun e w' => ∃ p cap, e = .returned (.agg #[.bool true, .slice p 1 cap]) ∧ SL w' p [[]] ∧ Below w0.heap.size w0 w' := fun w0 => by
    refine (cofinite_any (some ⟨w0.heap.size, 0, none⟩) 1 [[]] (by decide) _ (SL.one w0 [] (by decide))).mono fun e w' h => ?_
    obtain ⟨p, cap, h1, h2, _, h4⟩ := NA.step h (al w0 _)
    rw [nrm_e] at h1 h2
    exact ⟨p, cap, h1, h2, h4⟩
  have hF : ∀ (p : Option Addr) (k : Nat) (w0 : World), SL w0 p [[]] → Calls Try.prog 15 #[.agg #[.bool true, .slice p 1 k], .int .i64 1] w0 fun e w' => e = .returned (.tuple #[.string ⟨#[0]⟩, .bool true]) ∧ Below w0.heap.size w0 w' := fun p k w0 s => by
    have := first_any 1 true p k [[]] (by decide) w0 s
    rw [fre_e] at this
    exact this
  have hX : ∀ w0 : World, Calls Try.prog 22 #[.slice (some ⟨w0.heap.size, 0, none⟩) 2 2] (w0.alloc (.cells #[.string ⟨#[120]⟩, .string ⟨#[121]⟩] 9)) fun e w' => ∃ p cap, e = .returned (.agg #[.bool false, .slice p 2 cap]) ∧ SL w' p [[120], [121]] ∧ Below w0.heap.size w0 w' := fun w0 => by
    refine (finite_any (some ⟨w0.heap.size, 0, none⟩) 2 [[120], [121]] (by decide) _ (SL.two w0 [120] [121] (by decide) (by decide))).mono fun e w' h => ?_
    obtain ⟨p, cap, h1, h2, _, h4⟩ := NA.step h (al w0 _)
    rw [nrm_xy] at h1 h2
    exact ⟨p, cap, h1, h2, h4⟩
  have hC : ∀ (p : Option Addr) (k : Nat) (w0 : World), SL w0 p [[120], [121]] → Calls Try.prog 20 #[.agg #[.bool false, .slice p 2 k], .string ⟨#[121]⟩] w0 fun e w' => e = .returned (.bool true) ∧ Below w0.heap.size w0 w' := fun p k w0 s => by
    have := contains20_any false p k [[120], [121]] [121] (by decide) w0 s
    rw [show has false [[120], [121]] [121] = true from by decide] at this
    exact this
  go_enter Try.func8, Try.ntmps8
  go_upto_region 2 with (first
    | (go_at_call 22; with_reducible refine (hA _).mono ?_; rintro e w1 ⟨p1, k1, rfl, hs1, hb1⟩; have Hs1 := Lib.hid hs1; have Hb1 := Lib.hid hb1; clear hs1 hb1)
    | (go_at_call 23; with_reducible refine (hB _).mono ?_; rintro e w2 ⟨p2, k2, rfl, hs2, hb2⟩; have Hs2 := Lib.hid hs2; have Hs1' := Lib.hid (Hs1.out.below hb2); have Hb2 := Lib.hid (Hb1.out.trans (hb2.mono Hb1.out.size)); clear hs2 hb2)
    | (go_at_call 11; refine (hU _ _ _ _ _ Hs1'.out Hs2.out).mono ?_; rintro e w3 ⟨p3, k3, rfl, hs3, hb3⟩; have Hs3 := Lib.hid hs3; have Hb3 := Lib.hid (Hb2.out.trans (hb3.mono Hb2.out.size)); clear hs3 hb3)
    | ((with_reducible refine at_store ?_); refine wpList_store_row rfl 25 (.tmp 1) (.tmp 8) rfl _ _ rfl rfl _ _ (heap_alloc_new _ _) (by kernel_rfl) (by kernel_rfl) (by kernel_rfl) ?_))
  have hrow := setRow_heap (w3.alloc (.cells #[.bool false, .slice none 0 0] 25)) w3.heap.size _ #[.bool true, .slice p3 1 k3] _ _ (heap_alloc_new _ _)
  have hbq : Below w3.heap.size w3 ((w3.alloc (.cells #[.bool false, .slice none 0 0] 25)).setRow w3.heap.size #[.bool true, .slice p3 1 k3]) := below_setRow (al w3 _) (Nat.le_refl _) _
  have Hbq := Lib.hid (Hb3.out.trans (hbq.mono Hb3.out.size))
  have Hs4 := Lib.hid (Hs3.out.below hbq)
  clear hbq
  generalize (w3.alloc (.cells #[.bool false, .slice none 0 0] 25)).setRow w3.heap.size #[.bool true, .slice p3 1 k3] = wq at *
  have Hg := Lib.hid (heap_lt hrow)
  have Hq0 := Lib.hid (show wq.cell? ⟨w3.heap.size, 0, none⟩ = some (.bool true) from cell_of_row _ _ _ _ _ _ hrow)
  have Hq1 := Lib.hid (show wq.cell? ⟨w3.heap.size, 1, none⟩ = some (.slice p3 1 k3) from cell_of_row _ _ _ _ _ _ hrow)
  obtain ⟨a, o, rfl, ha, hc⟩ := Hs4.out.cell 0 (by decide)
  have Hc := Lib.hid (show wq.cell? ⟨a, o, none⟩ = some (.string ⟨#[98]⟩) from hc)
  have Ha := Lib.hid ha
  clear hrow ha hc
  go_upto_region 3 with (first
    | (go_at_call 23; with_reducible refine (hE _).mono ?_; rintro e w5 ⟨p5, k5, rfl, hs5, hb5⟩; have Hs5 := Lib.hid hs5; have Hb5 := Lib.hid hb5; clear hs5 hb5)
    | (go_at_call 15; refine (hF _ _ _ Hs5.out).mono ?_; rintro e w6 ⟨rfl, hb6⟩; have Hb6 := Lib.hid (Hb5.out.trans (hb6.mono Hb5.out.size)); clear hb6))
  have y0 := cell_keep Hb6.out Hg.out Hq0.out
  have y1 := cell_keep Hb6.out Hg.out Hq1.out
  have y2 := cell_keep Hb6.out Ha.out Hc.out
  have Hb7 := Lib.hid (Hbq.out.trans (Hb6.out.mono Hbq.out.size))
  go_wp2_with (first
    | (go_at_call 22; with_reducible refine (hX _).mono ?_; rintro e w8 ⟨p8, k8, rfl, hs8, hb8⟩; have Hs8 := Lib.hid hs8; have Hb8 := Lib.hid (Hb7.out.trans (hb8.mono Hb7.out.size)); clear hs8 hb8)
    | (go_at_call 20; refine (hC _ _ _ Hs8.out).mono ?_; rintro e w9 ⟨rfl, hb9⟩; have Hb9 := Lib.hid (Hb8.out.trans (hb9.mono Hb8.out.size)); clear hb9))
  go_ret
  exact ⟨rfl, Hb9.out⟩
end Go.Proofs.Ytejiagmfinhjbaa
