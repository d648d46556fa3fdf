/-
  The law of First: plain, and its walk.
-/
import Derived.Test.YtejiagmfinhjbaaNy
namespace Go.Proofs.Ytejiagmfinhjbaa
open Go.RowKit Go.Ident Go.Names

theorem bef_irr (x : Nm) : bef x x = false := by unfold bef; simp [lt_irr]
theorem bef_trans {x y z : Nm} (h : bef x y = true) (k : bef y z = true) : bef x z = true := by
  unfold bef at *
  simp only [decide_eq_true_eq] at *
  rcases h with h | ⟨h, h'⟩
  · rcases k with k | ⟨k, _⟩
    · exact .inl (by omega)
    · exact .inl (by omega)
  · rcases k with k | ⟨k, k'⟩
    · exact .inl (by omega)
    · exact .inr ⟨by omega, lt_tr h' k'⟩
theorem bef_tot (x y : Nm) (h : bef x y = false) : y = x ∨ bef y x = true := by
  unfold bef at *
  simp only [decide_eq_true_eq, decide_eq_false_iff_not, not_or, not_and] at *
  obtain ⟨h1, h2⟩ := h
  by_cases he : x.length = y.length
  · have := h2 he
    by_cases hq : y = x
    · exact .inl hq
    · exact .inr (.inr ⟨he.symm, lt_of_le_ne (le_of_not this) hq⟩)
  · exact .inr (.inl (by omega))
theorem bst_spec (K : Int) (l : List Nm) : ∀ i, i ≤ l.length → (∀ x ∈ l.take i, valK K x = true → (bst K (l.take i)).2 = true ∧ bef x (bst K (l.take i)).1 = false) := by
  intro i
  induction i with
  | zero => intro _ x hx; simp at hx
  | succ i ih =>
    intro hi x hx hv
    have hlt : i < l.length := by omega
    rw [bst_step K l i hlt]
    rw [List.take_succ_eq_append_getElem hlt, List.mem_append, List.mem_singleton] at hx
    have ih' := ih (by omega)
    generalize bst K (l.take i) = bf at *
    obtain ⟨b, f⟩ := bf
    unfold stp
    dsimp only at *
    rcases hx with hx | rfl
    · obtain ⟨h1, h2⟩ := ih' x hx hv
      subst h1
      cases hc : (valK K l[i] && (!true || bef l[i] b)) with
      | true =>
        simp only [if_true]
        refine ⟨trivial, ?_⟩
        have h3 : bef l[i] b = true := by simp at hc; exact hc.2
        cases hb : bef x l[i] with
        | false => rfl
        | true => rw [bef_trans hb h3] at h2; cases h2
      | false =>
        simp only [Bool.false_eq_true, if_false]
        exact ⟨trivial, h2⟩
    · cases hc : (valK K l[i] && (!f || bef l[i] b)) with
      | true =>
        simp only [if_true]
        exact ⟨trivial, bef_irr _⟩
      | false =>
        simp only [Bool.false_eq_true, if_false]
        rw [hv] at hc
        simp at hc
        exact ⟨hc.1, hc.2⟩
theorem before_seqS {s : Nm} {n : Nat} (hn : n ≤ 60) (hb : bef s (seqS n) = true) : ∃ m, m < n ∧ s = seqS m := by
  unfold bef at hb
  simp only [decide_eq_true_eq] at hb
  unfold seqS at hb
  by_cases h0 : n = 0
  · subst h0
    rw [if_pos rfl] at hb
    rcases hb with hb | ⟨_, hb⟩
    · simp at hb
    · exact absurd hb (List.not_lt_nil _)
  · rw [if_neg h0] at hb
    rcases hb with hb | ⟨hb, hb2⟩
    · have : s = [] := List.length_eq_zero_iff.1 (by simpa using hb)
      exact ⟨0, by omega, by rw [this]; rfl⟩
    · match s, hb with
      | [c], _ =>
        have hc := one_lt hb2
        rw [UInt8.lt_iff_toNat_lt, UInt8.toNat_ofNat'] at hc
        have : (n - 1) % 2 ^ 8 = n - 1 := Nat.mod_eq_of_lt (by omega)
        rw [this] at hc
        refine ⟨c.toNat + 1, by omega, ?_⟩
        unfold seqS
        rw [if_neg (by omega), Nat.add_sub_cancel, UInt8.ofNat_toNat]
theorem frs_law (kind : Int) (c : Bool) (L : List Nm) (hl : L.length ≤ 60) (s : Nm) (hv : valK kind s = true) (hh : has c L s = true) : (frsI kind c L).2 = true ∧ bef s (frsI kind c L).1 = false := by
  have key : ∀ K : Nat, K ≤ 1 → (K : Int) = kind → (frs K c L).2 = true ∧ bef s (frs K c L).1 = false := by
    intro K hK hk
    subst hk
    cases c with
    | false =>
      unfold frs
      simp only [Bool.false_eq_true, if_false]
      have hm : s ∈ L := by unfold has at hh; simpa using hh
      have := bst_spec (K : Int) L L.length (Nat.le_refl _)
      rw [List.take_length] at this
      exact this s hm hv
    | true =>
      unfold frs
      simp only [if_true]
      refine ⟨trivial, ?_⟩
      have hm : s ∉ L := by unfold has at hh; simpa using hh
      obtain ⟨h1, _, h3⟩ := freN_spec (kind := K) hK hl
      cases hb : bef s (fre K L) with
      | false => rfl
      | true =>
        exfalso
        have : ∃ m, m < freN K L ∧ s = seqK K m := by
          unfold fre at hb
          generalize freN K L = N at *
          rcases (show K = 0 ∨ K = 1 by omega) with rfl | rfl
          · unfold bef at hb
            simp only [decide_eq_true_eq] at hb
            exact before_seq h1 (by simpa [valK] using hv) hb
          · exact before_seqS h1 hb
        obtain ⟨m, hm1, rfl⟩ := this
        exact hm (h3 m hm1)
  unfold frsI
  by_cases h0 : kind = 0
  · rw [if_pos h0]; exact key 0 (by omega) h0.symm
  · by_cases h1 : kind = 1
    · rw [if_neg h0, if_pos h1]; exact key 1 (by omega) h1.symm
    · exfalso
      unfold valK at hv
      rw [if_neg h0, if_neg h1] at hv
      cases hv
set_option maxRecDepth 100000 in
set_option maxHeartbeats 64000000 in
theorem first_walk (c : Bool) (p : Option Addr) (cap : Nat) (L : List Nm) (kind : Int) (S : Nm) (w : World) (hS : SL w p L) :
    Calls Try.prog 4 #[.agg #[.bool c, .slice p L.length cap], .int .i64 kind, .string (toB S)] w fun e w' => e = .returned (.bool true) ∧ Below w.heap.size w w' := by
  have al : ∀ (w : World) (o : Obj), Below w.heap.size w (w.alloc o) := fun w o => (Below.refl _ _).alloc (Nat.le_refl _) o
  have hb0 := al w (.cells #[.bool c, .slice p L.length cap] 25)
  have hr0 : (w.alloc (.cells #[.bool c, .slice p L.length cap] 25)).heap[w.heap.size]? = some (.cells #[.bool c, .slice p L.length cap] 25) := heap_alloc_new _ _
  have hS' := hS.below hb0
  have HS := Lib.hid hS'; have Hb0 := Lib.hid hb0
  clear hb0 hS hS'
  have hlaw := frs_law kind c L
  have Hlaw := Lib.hid hlaw; clear hlaw
  go_enter Try.func4, Try.ntmps4
  go_upto_region 1 with fail
  generalize w.alloc (.cells #[.bool c, .slice p L.length cap] 25) = wb at *
  have Hr0 := Lib.hid hr0
  have Hlt := Lib.hid (heap_lt hr0)
  have hsh := short1_any wb.heap.size 0 L.length 1 p cap (wb.alloc (.cells #[.bool c, .slice p L.length cap] 25)) (cell_of_row _ _ _ _ _ _ (heap_alloc_new _ _))
  clear hr0
  have Hb1 := Lib.hid (Hb0.out.trans ((al wb (.cells #[.bool c, .slice p L.length cap] 25)).mono Hb0.out.size))
  by_cases h40 : L.length ≤ 40
  · rw [decide_eq_true h40] at hsh
    have hf := first_any kind c p cap L (by omega) _ (HS.out.below (al wb (.cells #[.bool c, .slice p L.length cap] 25)))
    have hn := firstName_any kind c p cap L (by omega)
    have Hl := Lib.hid (Hlaw.out (by omega) S)
    clear Hlaw
    generalize frsI kind c L = ff at *
    obtain ⟨f, ok⟩ := ff
    dsimp only at hf hn Hl
    go_upto_region 7 with (first
      | ((with_reducible refine at_load ?_); first
          | refine wpList_load_row rfl 25 (.tmp 3) rfl _ rfl _ _ (0, 0) _ Hr0.out rfl rfl (by kernel_rfl) ?_
          | refine wpList_load_row rfl 25 (.tmp 3) rfl _ rfl _ _ (0, 0) _ Hr3.out rfl rfl (by kernel_rfl) ?_
          | refine wpList_load_row rfl 25 (.tmp 3) rfl _ rfl _ _ (0, 0) _ ((heap_alloc_old _ _ Hlt.out).trans Hr0.out) rfl rfl (by kernel_rfl) ?_)
      | (go_at_call 14; refine hsh.mono ?_; rintro e w1 ⟨rfl, hw1⟩; subst hw1)
      | (go_at_call 15; refine hf.mono ?_; rintro e w2 ⟨rfl, hb2⟩; have Hb2 := Lib.hid ((al wb _).trans (hb2.mono (by simp))); have Hr3 := Lib.hid (row_keep Hb2.out Hlt.out Hr0.out); clear hb2)
      | (go_at_call 16; refine (hn _ (HS.out.below Hb2.out)).mono ?_; rintro e w4 ⟨rfl, hb4⟩; have Hb4 := Lib.hid (Hb2.out.trans (hb4.mono Hb2.out.size)); have Hr5 := Lib.hid (row_keep Hb4.out Hlt.out Hr0.out); clear hb4))
    have r5 := Hr5.out
    have Hx0 := Lib.hid (show wb.cell? ⟨w.heap.size, 0, none⟩ = some (.bool c) from cell_of_row _ _ _ _ _ _ Hr0.out)
    have Hx1 := Lib.hid (show wb.cell? ⟨w.heap.size, 1, none⟩ = some (.slice p L.length cap) from cell_of_row _ _ _ _ _ _ Hr0.out)
    have hvk := refValidKey_any kind (toB S) w4
    rw [toB_list] at hvk
    have hhn := hasName_any c p cap L S (by omega)
    have hsx := size_toB S
    have hsb := size_toB f
    have hbl : Op.bytesLess (toB S).toList (toB f).toList = decide (S < f) := by rw [toB_toList, toB_toList, bl_dec]
    clear hf hn hsh
    rcases Nat.lt_trichotomy S.length f.length with hll | hll | hll
    · have HB := Lib.hid (show bef S f = true by unfold bef; simp [hll])
      have hl1 : (toB S).size < (toB f).size := by omega
      clear hsx hsb hbl hll
      cases hV : valK kind S with
      | true =>
        have HV := Lib.hid hV; rw [hV] at hvk; clear hV
        cases hH : has c L S with
        | true =>
          have HH := Lib.hid hH; rw [hH] at hhn; clear hH
          cases ok with
          | true =>
            exact absurd ((Hl.out HV.out HH.out).2.symm.trans HB.out) (by decide)
          | false =>
            exact absurd (Hl.out HV.out HH.out).1 (by decide)
        | false =>
          have HH := Lib.hid hH; rw [hH] at hhn; clear hH
          cases ok with
          | true =>
            go_wp2_with (first
              | ((with_reducible refine at_load ?_); refine wpList_load_row rfl 25 (.tmp 3) rfl _ rfl _ _ (0, 0) _ r5 rfl rfl (by kernel_rfl) ?_)
              | (go_at_call 17; refine hvk.mono ?_; rintro e w5 ⟨rfl, hb5⟩; have Hb5 := Lib.hid (Hb4.out.trans (hb5.mono Hb4.out.size)); have z0 := cell_keep Hb5.out Hlt.out Hx0.out; have z1 := cell_keep Hb5.out Hlt.out Hx1.out; clear hb5)
              | (go_at_call 18; refine (hhn _ (HS.out.below Hb5.out)).mono ?_; rintro e w6 ⟨rfl, hb6⟩; have Hb6 := Lib.hid (Hb5.out.trans (hb6.mono Hb5.out.size)); clear hb6)
              | (go_at_call 8; refine (awake_any _).mono ?_; rintro e w7 ⟨rfl, hb7⟩; have Hb7 := Lib.hid (Hb6.out.trans (hb7.mono Hb6.out.size)); clear hb7))
            go_ret
            exact ⟨rfl, Hb0.out.trans (Hb7.out.mono Hb0.out.size)⟩
          | false =>
            go_wp2_with (first
              | ((with_reducible refine at_load ?_); refine wpList_load_row rfl 25 (.tmp 3) rfl _ rfl _ _ (0, 0) _ r5 rfl rfl (by kernel_rfl) ?_)
              | (go_at_call 17; refine hvk.mono ?_; rintro e w5 ⟨rfl, hb5⟩; have Hb5 := Lib.hid (Hb4.out.trans (hb5.mono Hb4.out.size)); have z0 := cell_keep Hb5.out Hlt.out Hx0.out; have z1 := cell_keep Hb5.out Hlt.out Hx1.out; clear hb5)
              | (go_at_call 18; refine (hhn _ (HS.out.below Hb5.out)).mono ?_; rintro e w6 ⟨rfl, hb6⟩; have Hb6 := Lib.hid (Hb5.out.trans (hb6.mono Hb5.out.size)); clear hb6)
              | (go_at_call 8; refine (awake_any _).mono ?_; rintro e w7 ⟨rfl, hb7⟩; have Hb7 := Lib.hid (Hb6.out.trans (hb7.mono Hb6.out.size)); clear hb7))
            go_ret
            exact ⟨rfl, Hb0.out.trans (Hb7.out.mono Hb0.out.size)⟩
      | false =>
        have HV := Lib.hid hV; rw [hV] at hvk; clear hV
        clear hhn
        cases ok with
        | true =>
          go_wp2_with (first
            | ((with_reducible refine at_load ?_); refine wpList_load_row rfl 25 (.tmp 3) rfl _ rfl _ _ (0, 0) _ r5 rfl rfl (by kernel_rfl) ?_)
            | (go_at_call 17; refine hvk.mono ?_; rintro e w5 ⟨rfl, hb5⟩; have Hb5 := Lib.hid (Hb4.out.trans (hb5.mono Hb4.out.size)); have z0 := cell_keep Hb5.out Hlt.out Hx0.out; have z1 := cell_keep Hb5.out Hlt.out Hx1.out; clear hb5)
            | (go_at_call 18; refine (hhn _ (HS.out.below Hb5.out)).mono ?_; rintro e w6 ⟨rfl, hb6⟩; have Hb6 := Lib.hid (Hb5.out.trans (hb6.mono Hb5.out.size)); clear hb6)
            | (go_at_call 8; refine (awake_any _).mono ?_; rintro e w7 ⟨rfl, hb7⟩; have Hb7 := Lib.hid (Hb5.out.trans (hb7.mono Hb5.out.size)); clear hb7))
          go_ret
          exact ⟨rfl, Hb0.out.trans (Hb7.out.mono Hb0.out.size)⟩
        | false =>
          go_wp2_with (first
            | ((with_reducible refine at_load ?_); refine wpList_load_row rfl 25 (.tmp 3) rfl _ rfl _ _ (0, 0) _ r5 rfl rfl (by kernel_rfl) ?_)
            | (go_at_call 17; refine hvk.mono ?_; rintro e w5 ⟨rfl, hb5⟩; have Hb5 := Lib.hid (Hb4.out.trans (hb5.mono Hb4.out.size)); have z0 := cell_keep Hb5.out Hlt.out Hx0.out; have z1 := cell_keep Hb5.out Hlt.out Hx1.out; clear hb5)
            | (go_at_call 18; refine (hhn _ (HS.out.below Hb5.out)).mono ?_; rintro e w6 ⟨rfl, hb6⟩; have Hb6 := Lib.hid (Hb5.out.trans (hb6.mono Hb5.out.size)); clear hb6)
            | (go_at_call 8; refine (awake_any _).mono ?_; rintro e w7 ⟨rfl, hb7⟩; have Hb7 := Lib.hid (Hb5.out.trans (hb7.mono Hb5.out.size)); clear hb7))
          go_ret
          exact ⟨rfl, Hb0.out.trans (Hb7.out.mono Hb0.out.size)⟩
    · have hl1 : (toB S).size = (toB f).size := by omega
      clear hsx hsb
      cases hd : decide (S < f) with
      | true =>
        rw [hd] at hbl
        have HB := Lib.hid (show bef S f = true by unfold bef; have hq : S < f := (by simpa using hd); simp [hll, hq])
        clear hd hll
        cases hV : valK kind S with
        | true =>
          have HV := Lib.hid hV; rw [hV] at hvk; clear hV
          cases hH : has c L S with
          | true =>
            have HH := Lib.hid hH; rw [hH] at hhn; clear hH
            cases ok with
            | true =>
              exact absurd ((Hl.out HV.out HH.out).2.symm.trans HB.out) (by decide)
            | false =>
              exact absurd (Hl.out HV.out HH.out).1 (by decide)
          | false =>
            have HH := Lib.hid hH; rw [hH] at hhn; clear hH
            cases ok with
            | true =>
              go_wp2_with (first
                | ((with_reducible refine at_load ?_); refine wpList_load_row rfl 25 (.tmp 3) rfl _ rfl _ _ (0, 0) _ r5 rfl rfl (by kernel_rfl) ?_)
                | (go_at_call 17; refine hvk.mono ?_; rintro e w5 ⟨rfl, hb5⟩; have Hb5 := Lib.hid (Hb4.out.trans (hb5.mono Hb4.out.size)); have z0 := cell_keep Hb5.out Hlt.out Hx0.out; have z1 := cell_keep Hb5.out Hlt.out Hx1.out; clear hb5)
                | (go_at_call 18; refine (hhn _ (HS.out.below Hb5.out)).mono ?_; rintro e w6 ⟨rfl, hb6⟩; have Hb6 := Lib.hid (Hb5.out.trans (hb6.mono Hb5.out.size)); clear hb6)
                | (go_at_call 8; refine (awake_any _).mono ?_; rintro e w7 ⟨rfl, hb7⟩; have Hb7 := Lib.hid (Hb6.out.trans (hb7.mono Hb6.out.size)); clear hb7))
              go_ret
              exact ⟨rfl, Hb0.out.trans (Hb7.out.mono Hb0.out.size)⟩
            | false =>
              go_wp2_with (first
                | ((with_reducible refine at_load ?_); refine wpList_load_row rfl 25 (.tmp 3) rfl _ rfl _ _ (0, 0) _ r5 rfl rfl (by kernel_rfl) ?_)
                | (go_at_call 17; refine hvk.mono ?_; rintro e w5 ⟨rfl, hb5⟩; have Hb5 := Lib.hid (Hb4.out.trans (hb5.mono Hb4.out.size)); have z0 := cell_keep Hb5.out Hlt.out Hx0.out; have z1 := cell_keep Hb5.out Hlt.out Hx1.out; clear hb5)
                | (go_at_call 18; refine (hhn _ (HS.out.below Hb5.out)).mono ?_; rintro e w6 ⟨rfl, hb6⟩; have Hb6 := Lib.hid (Hb5.out.trans (hb6.mono Hb5.out.size)); clear hb6)
                | (go_at_call 8; refine (awake_any _).mono ?_; rintro e w7 ⟨rfl, hb7⟩; have Hb7 := Lib.hid (Hb6.out.trans (hb7.mono Hb6.out.size)); clear hb7))
              go_ret
              exact ⟨rfl, Hb0.out.trans (Hb7.out.mono Hb0.out.size)⟩
        | false =>
          have HV := Lib.hid hV; rw [hV] at hvk; clear hV
          clear hhn
          cases ok with
          | true =>
            go_wp2_with (first
              | ((with_reducible refine at_load ?_); refine wpList_load_row rfl 25 (.tmp 3) rfl _ rfl _ _ (0, 0) _ r5 rfl rfl (by kernel_rfl) ?_)
              | (go_at_call 17; refine hvk.mono ?_; rintro e w5 ⟨rfl, hb5⟩; have Hb5 := Lib.hid (Hb4.out.trans (hb5.mono Hb4.out.size)); have z0 := cell_keep Hb5.out Hlt.out Hx0.out; have z1 := cell_keep Hb5.out Hlt.out Hx1.out; clear hb5)
              | (go_at_call 18; refine (hhn _ (HS.out.below Hb5.out)).mono ?_; rintro e w6 ⟨rfl, hb6⟩; have Hb6 := Lib.hid (Hb5.out.trans (hb6.mono Hb5.out.size)); clear hb6)
              | (go_at_call 8; refine (awake_any _).mono ?_; rintro e w7 ⟨rfl, hb7⟩; have Hb7 := Lib.hid (Hb5.out.trans (hb7.mono Hb5.out.size)); clear hb7))
            go_ret
            exact ⟨rfl, Hb0.out.trans (Hb7.out.mono Hb0.out.size)⟩
          | false =>
            go_wp2_with (first
              | ((with_reducible refine at_load ?_); refine wpList_load_row rfl 25 (.tmp 3) rfl _ rfl _ _ (0, 0) _ r5 rfl rfl (by kernel_rfl) ?_)
              | (go_at_call 17; refine hvk.mono ?_; rintro e w5 ⟨rfl, hb5⟩; have Hb5 := Lib.hid (Hb4.out.trans (hb5.mono Hb4.out.size)); have z0 := cell_keep Hb5.out Hlt.out Hx0.out; have z1 := cell_keep Hb5.out Hlt.out Hx1.out; clear hb5)
              | (go_at_call 18; refine (hhn _ (HS.out.below Hb5.out)).mono ?_; rintro e w6 ⟨rfl, hb6⟩; have Hb6 := Lib.hid (Hb5.out.trans (hb6.mono Hb5.out.size)); clear hb6)
              | (go_at_call 8; refine (awake_any _).mono ?_; rintro e w7 ⟨rfl, hb7⟩; have Hb7 := Lib.hid (Hb5.out.trans (hb7.mono Hb5.out.size)); clear hb7))
            go_ret
            exact ⟨rfl, Hb0.out.trans (Hb7.out.mono Hb0.out.size)⟩
      | false =>
        rw [hd] at hbl
        have HB := Lib.hid (show bef S f = false by unfold bef; have hq : ¬ S < f := (by simpa using hd); simp [hll, hq])
        clear hd hll
        cases hV : valK kind S with
        | true =>
          have HV := Lib.hid hV; rw [hV] at hvk; clear hV
          cases hH : has c L S with
          | true =>
            have HH := Lib.hid hH; rw [hH] at hhn; clear hH
            cases ok with
            | true =>
              go_wp2_with (first
                | ((with_reducible refine at_load ?_); refine wpList_load_row rfl 25 (.tmp 3) rfl _ rfl _ _ (0, 0) _ r5 rfl rfl (by kernel_rfl) ?_)
                | (go_at_call 17; refine hvk.mono ?_; rintro e w5 ⟨rfl, hb5⟩; have Hb5 := Lib.hid (Hb4.out.trans (hb5.mono Hb4.out.size)); have z0 := cell_keep Hb5.out Hlt.out Hx0.out; have z1 := cell_keep Hb5.out Hlt.out Hx1.out; clear hb5)
                | (go_at_call 18; refine (hhn _ (HS.out.below Hb5.out)).mono ?_; rintro e w6 ⟨rfl, hb6⟩; have Hb6 := Lib.hid (Hb5.out.trans (hb6.mono Hb5.out.size)); clear hb6)
                | (go_at_call 8; refine (awake_any _).mono ?_; rintro e w7 ⟨rfl, hb7⟩; have Hb7 := Lib.hid (Hb6.out.trans (hb7.mono Hb6.out.size)); clear hb7))
              go_ret
              exact ⟨rfl, Hb0.out.trans (Hb7.out.mono Hb0.out.size)⟩
            | false =>
              exact absurd (Hl.out HV.out HH.out).1 (by decide)
          | false =>
            have HH := Lib.hid hH; rw [hH] at hhn; clear hH
            cases ok with
            | true =>
              go_wp2_with (first
                | ((with_reducible refine at_load ?_); refine wpList_load_row rfl 25 (.tmp 3) rfl _ rfl _ _ (0, 0) _ r5 rfl rfl (by kernel_rfl) ?_)
                | (go_at_call 17; refine hvk.mono ?_; rintro e w5 ⟨rfl, hb5⟩; have Hb5 := Lib.hid (Hb4.out.trans (hb5.mono Hb4.out.size)); have z0 := cell_keep Hb5.out Hlt.out Hx0.out; have z1 := cell_keep Hb5.out Hlt.out Hx1.out; clear hb5)
                | (go_at_call 18; refine (hhn _ (HS.out.below Hb5.out)).mono ?_; rintro e w6 ⟨rfl, hb6⟩; have Hb6 := Lib.hid (Hb5.out.trans (hb6.mono Hb5.out.size)); clear hb6)
                | (go_at_call 8; refine (awake_any _).mono ?_; rintro e w7 ⟨rfl, hb7⟩; have Hb7 := Lib.hid (Hb6.out.trans (hb7.mono Hb6.out.size)); clear hb7))
              go_ret
              exact ⟨rfl, Hb0.out.trans (Hb7.out.mono Hb0.out.size)⟩
            | false =>
              go_wp2_with (first
                | ((with_reducible refine at_load ?_); refine wpList_load_row rfl 25 (.tmp 3) rfl _ rfl _ _ (0, 0) _ r5 rfl rfl (by kernel_rfl) ?_)
                | (go_at_call 17; refine hvk.mono ?_; rintro e w5 ⟨rfl, hb5⟩; have Hb5 := Lib.hid (Hb4.out.trans (hb5.mono Hb4.out.size)); have z0 := cell_keep Hb5.out Hlt.out Hx0.out; have z1 := cell_keep Hb5.out Hlt.out Hx1.out; clear hb5)
                | (go_at_call 18; refine (hhn _ (HS.out.below Hb5.out)).mono ?_; rintro e w6 ⟨rfl, hb6⟩; have Hb6 := Lib.hid (Hb5.out.trans (hb6.mono Hb5.out.size)); clear hb6)
                | (go_at_call 8; refine (awake_any _).mono ?_; rintro e w7 ⟨rfl, hb7⟩; have Hb7 := Lib.hid (Hb6.out.trans (hb7.mono Hb6.out.size)); clear hb7))
              go_ret
              exact ⟨rfl, Hb0.out.trans (Hb7.out.mono Hb0.out.size)⟩
        | false =>
          have HV := Lib.hid hV; rw [hV] at hvk; clear hV
          clear hhn
          cases ok with
          | true =>
            go_wp2_with (first
              | ((with_reducible refine at_load ?_); refine wpList_load_row rfl 25 (.tmp 3) rfl _ rfl _ _ (0, 0) _ r5 rfl rfl (by kernel_rfl) ?_)
              | (go_at_call 17; refine hvk.mono ?_; rintro e w5 ⟨rfl, hb5⟩; have Hb5 := Lib.hid (Hb4.out.trans (hb5.mono Hb4.out.size)); have z0 := cell_keep Hb5.out Hlt.out Hx0.out; have z1 := cell_keep Hb5.out Hlt.out Hx1.out; clear hb5)
              | (go_at_call 18; refine (hhn _ (HS.out.below Hb5.out)).mono ?_; rintro e w6 ⟨rfl, hb6⟩; have Hb6 := Lib.hid (Hb5.out.trans (hb6.mono Hb5.out.size)); clear hb6)
              | (go_at_call 8; refine (awake_any _).mono ?_; rintro e w7 ⟨rfl, hb7⟩; have Hb7 := Lib.hid (Hb5.out.trans (hb7.mono Hb5.out.size)); clear hb7))
            go_ret
            exact ⟨rfl, Hb0.out.trans (Hb7.out.mono Hb0.out.size)⟩
          | false =>
            go_wp2_with (first
              | ((with_reducible refine at_load ?_); refine wpList_load_row rfl 25 (.tmp 3) rfl _ rfl _ _ (0, 0) _ r5 rfl rfl (by kernel_rfl) ?_)
              | (go_at_call 17; refine hvk.mono ?_; rintro e w5 ⟨rfl, hb5⟩; have Hb5 := Lib.hid (Hb4.out.trans (hb5.mono Hb4.out.size)); have z0 := cell_keep Hb5.out Hlt.out Hx0.out; have z1 := cell_keep Hb5.out Hlt.out Hx1.out; clear hb5)
              | (go_at_call 18; refine (hhn _ (HS.out.below Hb5.out)).mono ?_; rintro e w6 ⟨rfl, hb6⟩; have Hb6 := Lib.hid (Hb5.out.trans (hb6.mono Hb5.out.size)); clear hb6)
              | (go_at_call 8; refine (awake_any _).mono ?_; rintro e w7 ⟨rfl, hb7⟩; have Hb7 := Lib.hid (Hb5.out.trans (hb7.mono Hb5.out.size)); clear hb7))
            go_ret
            exact ⟨rfl, Hb0.out.trans (Hb7.out.mono Hb0.out.size)⟩
    · have HB := Lib.hid (show bef S f = false by unfold bef; simp; omega)
      have hl1 : ¬ (toB S).size < (toB f).size := by omega
      have hl2 : ¬ (toB S).size = (toB f).size := by omega
      clear hsx hsb hbl hll
      cases hV : valK kind S with
      | true =>
        have HV := Lib.hid hV; rw [hV] at hvk; clear hV
        cases hH : has c L S with
        | true =>
          have HH := Lib.hid hH; rw [hH] at hhn; clear hH
          cases ok with
          | true =>
            go_wp2_with (first
              | ((with_reducible refine at_load ?_); refine wpList_load_row rfl 25 (.tmp 3) rfl _ rfl _ _ (0, 0) _ r5 rfl rfl (by kernel_rfl) ?_)
              | (go_at_call 17; refine hvk.mono ?_; rintro e w5 ⟨rfl, hb5⟩; have Hb5 := Lib.hid (Hb4.out.trans (hb5.mono Hb4.out.size)); have z0 := cell_keep Hb5.out Hlt.out Hx0.out; have z1 := cell_keep Hb5.out Hlt.out Hx1.out; clear hb5)
              | (go_at_call 18; refine (hhn _ (HS.out.below Hb5.out)).mono ?_; rintro e w6 ⟨rfl, hb6⟩; have Hb6 := Lib.hid (Hb5.out.trans (hb6.mono Hb5.out.size)); clear hb6)
              | (go_at_call 8; refine (awake_any _).mono ?_; rintro e w7 ⟨rfl, hb7⟩; have Hb7 := Lib.hid (Hb6.out.trans (hb7.mono Hb6.out.size)); clear hb7))
            go_ret
            exact ⟨rfl, Hb0.out.trans (Hb7.out.mono Hb0.out.size)⟩
          | false =>
            exact absurd (Hl.out HV.out HH.out).1 (by decide)
        | false =>
          have HH := Lib.hid hH; rw [hH] at hhn; clear hH
          cases ok with
          | true =>
            go_wp2_with (first
              | ((with_reducible refine at_load ?_); refine wpList_load_row rfl 25 (.tmp 3) rfl _ rfl _ _ (0, 0) _ r5 rfl rfl (by kernel_rfl) ?_)
              | (go_at_call 17; refine hvk.mono ?_; rintro e w5 ⟨rfl, hb5⟩; have Hb5 := Lib.hid (Hb4.out.trans (hb5.mono Hb4.out.size)); have z0 := cell_keep Hb5.out Hlt.out Hx0.out; have z1 := cell_keep Hb5.out Hlt.out Hx1.out; clear hb5)
              | (go_at_call 18; refine (hhn _ (HS.out.below Hb5.out)).mono ?_; rintro e w6 ⟨rfl, hb6⟩; have Hb6 := Lib.hid (Hb5.out.trans (hb6.mono Hb5.out.size)); clear hb6)
              | (go_at_call 8; refine (awake_any _).mono ?_; rintro e w7 ⟨rfl, hb7⟩; have Hb7 := Lib.hid (Hb6.out.trans (hb7.mono Hb6.out.size)); clear hb7))
            go_ret
            exact ⟨rfl, Hb0.out.trans (Hb7.out.mono Hb0.out.size)⟩
          | false =>
            go_wp2_with (first
              | ((with_reducible refine at_load ?_); refine wpList_load_row rfl 25 (.tmp 3) rfl _ rfl _ _ (0, 0) _ r5 rfl rfl (by kernel_rfl) ?_)
              | (go_at_call 17; refine hvk.mono ?_; rintro e w5 ⟨rfl, hb5⟩; have Hb5 := Lib.hid (Hb4.out.trans (hb5.mono Hb4.out.size)); have z0 := cell_keep Hb5.out Hlt.out Hx0.out; have z1 := cell_keep Hb5.out Hlt.out Hx1.out; clear hb5)
              | (go_at_call 18; refine (hhn _ (HS.out.below Hb5.out)).mono ?_; rintro e w6 ⟨rfl, hb6⟩; have Hb6 := Lib.hid (Hb5.out.trans (hb6.mono Hb5.out.size)); clear hb6)
              | (go_at_call 8; refine (awake_any _).mono ?_; rintro e w7 ⟨rfl, hb7⟩; have Hb7 := Lib.hid (Hb6.out.trans (hb7.mono Hb6.out.size)); clear hb7))
            go_ret
            exact ⟨rfl, Hb0.out.trans (Hb7.out.mono Hb0.out.size)⟩
      | false =>
        have HV := Lib.hid hV; rw [hV] at hvk; clear hV
        clear hhn
        cases ok with
        | true =>
          go_wp2_with (first
            | ((with_reducible refine at_load ?_); refine wpList_load_row rfl 25 (.tmp 3) rfl _ rfl _ _ (0, 0) _ r5 rfl rfl (by kernel_rfl) ?_)
            | (go_at_call 17; refine hvk.mono ?_; rintro e w5 ⟨rfl, hb5⟩; have Hb5 := Lib.hid (Hb4.out.trans (hb5.mono Hb4.out.size)); have z0 := cell_keep Hb5.out Hlt.out Hx0.out; have z1 := cell_keep Hb5.out Hlt.out Hx1.out; clear hb5)
            | (go_at_call 18; refine (hhn _ (HS.out.below Hb5.out)).mono ?_; rintro e w6 ⟨rfl, hb6⟩; have Hb6 := Lib.hid (Hb5.out.trans (hb6.mono Hb5.out.size)); clear hb6)
            | (go_at_call 8; refine (awake_any _).mono ?_; rintro e w7 ⟨rfl, hb7⟩; have Hb7 := Lib.hid (Hb5.out.trans (hb7.mono Hb5.out.size)); clear hb7))
          go_ret
          exact ⟨rfl, Hb0.out.trans (Hb7.out.mono Hb0.out.size)⟩
        | false =>
          go_wp2_with (first
            | ((with_reducible refine at_load ?_); refine wpList_load_row rfl 25 (.tmp 3) rfl _ rfl _ _ (0, 0) _ r5 rfl rfl (by kernel_rfl) ?_)
            | (go_at_call 17; refine hvk.mono ?_; rintro e w5 ⟨rfl, hb5⟩; have Hb5 := Lib.hid (Hb4.out.trans (hb5.mono Hb4.out.size)); have z0 := cell_keep Hb5.out Hlt.out Hx0.out; have z1 := cell_keep Hb5.out Hlt.out Hx1.out; clear hb5)
            | (go_at_call 18; refine (hhn _ (HS.out.below Hb5.out)).mono ?_; rintro e w6 ⟨rfl, hb6⟩; have Hb6 := Lib.hid (Hb5.out.trans (hb6.mono Hb5.out.size)); clear hb6)
            | (go_at_call 8; refine (awake_any _).mono ?_; rintro e w7 ⟨rfl, hb7⟩; have Hb7 := Lib.hid (Hb5.out.trans (hb7.mono Hb5.out.size)); clear hb7))
          go_ret
          exact ⟨rfl, Hb0.out.trans (Hb7.out.mono Hb0.out.size)⟩
  · rw [decide_eq_false h40] at hsh
    go_wp2_with (first
      | ((with_reducible refine at_load ?_); refine wpList_load_row rfl 25 (.tmp 3) rfl _ rfl _ _ (0, 0) _ Hr0.out rfl rfl (by kernel_rfl) ?_)
      | (go_at_call 14; refine hsh.mono ?_; rintro e w1 ⟨rfl, hw1⟩; subst hw1)
      | (go_at_call 8; refine (awake_any _).mono ?_; rintro e w2 ⟨rfl, hb2⟩; have Hb2 := Lib.hid (Hb1.out.trans (hb2.mono Hb1.out.size)); clear hb2))
    go_ret
    exact ⟨rfl, Hb2.out⟩
end Go.Proofs.Ytejiagmfinhjbaa
