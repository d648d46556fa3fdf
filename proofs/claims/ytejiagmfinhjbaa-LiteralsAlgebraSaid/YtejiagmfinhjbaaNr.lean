/-
  Walks: same, short.
-/
import Derived.Test.YtejiagmfinhjbaaNq
namespace Go.Proofs.Ytejiagmfinhjbaa
open Go.RowKit Go.Ident Go.Names

theorem beq_dec (x y : Nm) : (x == y) = decide (x = y) := by rw [Bool.eq_iff_iff]; simp
theorem tk_step {L M : List Nm} {k : Nat} (h : L.take k = M.take k) (h1 : k < L.length) (h2 : k < M.length) (he : L[k] = M[k]) : L.take (k + 1) = M.take (k + 1) := by
  rw [List.take_succ_eq_append_getElem h1, List.take_succ_eq_append_getElem h2, h, he]
set_option maxRecDepth 100000 in
set_option maxHeartbeats 16000000 in
theorem same_any (c1 : Bool) (p1 : Option Addr) (cap1 : Nat) (L1 : List Nm) (h1 : L1.length ≤ 1000000) (c2 : Bool) (p2 : Option Addr) (cap2 : Nat) (L2 : List Nm) (h2 : L2.length ≤ 1000000) (w : World) (hS1 : SL w p1 L1) (hS2 : SL w p2 L2) :
    Calls Try.prog 12 #[.agg #[.bool c1, .slice p1 L1.length cap1], .agg #[.bool c2, .slice p2 L2.length cap2]] w fun e w' => e = .returned (.bool (decide (c1 = c2 ∧ L1 = L2))) ∧ Below w.heap.size w w' := by
  have hb0 : Below w.heap.size w ((w.alloc (.cells #[.bool c1, .slice p1 L1.length cap1] 25)).alloc (.cells #[.bool c2, .slice p2 L2.length cap2] 25)) := below_alloc ((Below.refl _ _).alloc (Nat.le_refl _) _) _
  have hS1' := hS1.below hb0
  have hS2' := hS2.below hb0
  have hs0 : ((w.alloc (.cells #[.bool c1, .slice p1 L1.length cap1] 25)).alloc (.cells #[.bool c2, .slice p2 L2.length cap2] 25)).heap.size = w.heap.size + 2 := by simp
  have hr0 := two_row0 w (.cells #[.bool c1, .slice p1 L1.length cap1] 25) (.cells #[.bool c2, .slice p2 L2.length cap2] 25)
  have hr1 := two_row1 w (.cells #[.bool c1, .slice p1 L1.length cap1] 25) (.cells #[.bool c2, .slice p2 L2.length cap2] 25)
  clear hS1 hS2
  have HS1 := Lib.hid hS1'; have HS2 := Lib.hid hS2'; have Hb0 := Lib.hid hb0
  clear hS1' hS2' hb0
  obtain ⟨R, hR⟩ : ∃ R, R = decide (c1 = c2 ∧ L1 = L2) := ⟨_, rfl⟩
  rw [← hR]
  have HR := Lib.hid hR; clear hR
  go_enter Try.func12, Try.ntmps12
  go_upto_region 1 with fail
  generalize (w.alloc (.cells #[.bool c1, .slice p1 L1.length cap1] 25)).alloc (.cells #[.bool c2, .slice p2 L2.length cap2] 25) = wb at *
  have x0 : wb.cell? ⟨w.heap.size, 0, none⟩ = some (.bool c1) := cell_of_row _ _ _ _ _ _ hr0
  have x1 : wb.cell? ⟨w.heap.size, 1, none⟩ = some (.slice p1 L1.length cap1) := cell_of_row _ _ _ _ _ _ hr0
  have x2 : wb.cell? ⟨w.heap.size + 1, 0, none⟩ = some (.bool c2) := cell_of_row _ _ _ _ _ _ hr1
  have x3 : wb.cell? ⟨w.heap.size + 1, 1, none⟩ = some (.slice p2 L2.length cap2) := cell_of_row _ _ _ _ _ _ hr1
  have Hlt0 := Lib.hid (show w.heap.size < wb.heap.size by omega)
  have Hlt1 := Lib.hid (show w.heap.size + 1 < wb.heap.size by omega)
  clear hr0 hr1 hs0
  by_cases hc : c1 = c2
  · by_cases hl : L1.length = L2.length
    · have hlb : ((L1.length : Int) != (L2.length : Int)) = false := by rw [hl]; simp
      have Hc := Lib.hid hc; have Hl := Lib.hid hl
      subst hc
      have hl2 : (L2.length : Int) = (L1.length : Int) := by rw [hl]
      clear hl
      go_wp2
      go_loopw [5] (fun i wr => ∃ k : Nat, k ≤ L1.length ∧ i = .int .i64 k ∧ L1.take k = L2.take k ∧ Below wb.heap.size wb wr) (fun i _ => L1.length - (intOf i).toNat)
      case atStart => exact ⟨0, by omega, rfl, rfl, Below.refl _ _⟩
      case round =>
        obtain ⟨k, hk, rfl, ht, hbw⟩ := hrel
        have Ht := Lib.hid ht; clear ht
        have Hbw := Lib.hid hbw; clear hbw
        have y1 := cell_keep Hbw.out Hlt0.out x1
        have y3 := cell_keep Hbw.out Hlt1.out x3
        by_cases hlt : k < L1.length
        · have hlt2 : k < L2.length := by have := Hl.out; omega
          obtain ⟨a, o, rfl, ha, z1⟩ := (HS1.out.below Hbw.out).cell k hlt
          obtain ⟨a', o', rfl, ha', z2⟩ := (HS2.out.below Hbw.out).cell k hlt2
          have hst := tk_step Ht.out hlt hlt2
          have hno : ¬ L1[k] = L2[k] → ¬ L1 = L2 := fun h he => h (by subst he; rfl)
          have Hst := Lib.hid hst; have Hno := Lib.hid hno
          clear hst hno ha ha'
          have hbl : ((toB L1[k]).toList == (toB L2[k]).toList) = decide (L1[k] = L2[k]) := by rw [toB_toList, toB_toList, beq_dec]
          generalize L1[k] = x at *
          generalize L2[k] = y at *
          generalize toB x = sx at *
          generalize toB y = sy at *
          cases hd : decide (x = y) with
          | true =>
            rw [hd] at hbl
            have Hd := Lib.hid (show x = y by simpa using hd)
            clear hd
            go_wp2_with (first
              | ((with_reducible refine Lex.at_region ?_); with_reducible refine Lex.wp_region_lex (by kernel_rfl) (by decide +kernel) ?_)
              | ((with_reducible refine Lex.at_fin ?_); with_reducible refine Lex.fin_on (by kernel_rfl) ?_))
            exact ⟨⟨k + 1, by omega, by go_num, Hst.out Hd.out, Hbw.out.drew⟩, by simp [intOf]; omega⟩
          | false =>
            rw [hd] at hbl
            have Hd := Lib.hid (show ¬ x = y by simpa using hd)
            clear hd
            go_wp2_with (first
              | ((with_reducible refine Lex.at_region ?_); with_reducible refine Lex.wp_region_lex (by kernel_rfl) (by decide +kernel) ?_)
              | ((with_reducible refine Lex.at_fin ?_); with_reducible refine Lex.fin_on (by kernel_rfl) ?_))
            go_ret
            exact ⟨by rw [HR.out, decide_eq_false (fun h => Hno.out Hd.out h.2)]; rfl, Hb0.out.trans (Hbw.out.drew.mono Hb0.out.size)⟩
        · have he : L1 = L2 := by
            have := Ht.out
            rw [List.take_of_length_le (by omega), List.take_of_length_le (by have := Hl.out; omega)] at this
            exact this
          have He := Lib.hid he; clear he
          go_wp2
          go_ret
          exact ⟨by rw [HR.out, decide_eq_true ⟨Hc.out, He.out⟩]; rfl, Hb0.out.trans (Hbw.out.mono Hb0.out.size)⟩
    · have Hn := Lib.hid (show ¬ (c1 = c2 ∧ L1 = L2) from fun h => hl (by rw [h.2]))
      subst hc
      have hbl : ((L1.length : Int) != (L2.length : Int)) = true := by rw [bne_iff_ne]; omega
      go_wp2_with fail
      all_goals first
        | (go_ret; exact ⟨by rw [HR.out, decide_eq_false Hn.out]; rfl, Hb0.out⟩)
        | (exfalso; omega)
        | trace_state
  · have Hn := Lib.hid (show ¬ (c1 = c2 ∧ L1 = L2) from fun h => hc h.1)
    cases c1 <;> cases c2 <;> first
      | (exact absurd rfl hc)
      | (clear hc
         go_wp2
         go_ret
         exact ⟨by rw [HR.out, decide_eq_false Hn.out]; rfl, Hb0.out⟩)
set_option maxRecDepth 100000 in
/-- short, of one set. -/
theorem short1_any (g o : Nat) (n c : Nat) (p : Option Addr) (cap : Nat) (w : World) (h : w.cell? ⟨g, o + 1, none⟩ = some (.slice p n cap)) :
    Calls Try.prog 14 #[.slice (some ⟨g, o, none⟩) 1 c] w fun e w' => e = .returned (.bool (decide (n ≤ 40))) ∧ w' = w := by
  go_enter Try.func14, Try.ntmps14
  go_wp2
  go_loop [3] (fun i => ∃ k : Nat, i = .int .i64 k ∧ (k = 0 ∨ (k = 1 ∧ n ≤ 40))) (fun i => 2 - (intOf i).toNat)
  case atStart => exact ⟨0, rfl, .inl rfl⟩
  case round =>
    obtain ⟨k, rfl, rfl | ⟨rfl, hn⟩⟩ := hrel
    · by_cases hn : n ≤ 40
      · go_wp2
        exact ⟨⟨1, rfl, .inr ⟨rfl, hn⟩⟩, by simp [intOf]⟩
      · go_wp2
        go_ret
        exact ⟨rfl, rfl⟩
    · go_wp2
      go_ret
      exact ⟨rfl, rfl⟩
set_option maxRecDepth 100000 in
/-- short, of two sets. -/
theorem short2_any (g o : Nat) (n m c : Nat) (p q : Option Addr) (cap cap2 : Nat) (w : World) (h : w.cell? ⟨g, o + 1, none⟩ = some (.slice p n cap)) (h2 : w.cell? ⟨g, o + 3, none⟩ = some (.slice q m cap2)) :
    Calls Try.prog 14 #[.slice (some ⟨g, o, none⟩) 2 c] w fun e w' => e = .returned (.bool (decide (n ≤ 40 ∧ m ≤ 40))) ∧ w' = w := by
  go_enter Try.func14, Try.ntmps14
  go_wp2
  go_loop [3] (fun i => ∃ k : Nat, i = .int .i64 k ∧ (k = 0 ∨ (k = 1 ∧ n ≤ 40) ∨ (k = 2 ∧ n ≤ 40 ∧ m ≤ 40))) (fun i => 3 - (intOf i).toNat)
  case atStart => exact ⟨0, rfl, .inl rfl⟩
  case round =>
    obtain ⟨k, rfl, rfl | ⟨rfl, hn⟩ | ⟨rfl, hn, hm⟩⟩ := hrel
    · by_cases hn : n ≤ 40
      · go_wp2
        exact ⟨⟨1, rfl, .inr (.inl ⟨rfl, hn⟩)⟩, by simp [intOf]⟩
      · go_wp2
        go_ret
        exact ⟨rfl, rfl⟩
    · by_cases hm : m ≤ 40
      · go_wp2
        exact ⟨⟨2, rfl, .inr (.inr ⟨rfl, hn, hm⟩)⟩, by simp [intOf]⟩
      · go_wp2
        go_ret
        exact ⟨rfl, rfl⟩
    · go_wp2
      go_ret
      exact ⟨rfl, rfl⟩
end Go.Proofs.Ytejiagmfinhjbaa
