/- Walks and plain facts for the laws of membership, for all values and types that the heap holds (texts W6). -/
import Derived.Test.YtjgldaaofdpcgaaGreatU33
set_option linter.unusedVariables false
set_option linter.unusedSimpArgs false
namespace Go.Proofs.YtjgldaaofdpcgaaGreat
open Go.RowKit Go.Ident
set_option maxRecDepth 100000
theorem fo_true {l : List FF} (h1 : ∀ j (h : j < l.length), valK l[j].key.kind l[j].key.text.data.toList = true) (h2 : ∀ j (h : j + 1 < l.length), cmpK (l[j]'(by omega)).key l[j + 1].key < 0) : fieldsOk l = true := by
  unfold fieldsOk
  rw [Bool.and_eq_true, List.all_eq_true]
  refine ⟨asc_iff.2 fun j h => ?_, fun f hf => ?_⟩
  · rw [List.length_map] at h
    simpa using h2 j h
  · obtain ⟨j, hj, rfl⟩ := List.mem_iff_getElem.1 hf
    exact h1 j hj
theorem fo_false1 {l : List FF} {j : Nat} (h : j < l.length) (h1 : valK l[j].key.kind l[j].key.text.data.toList = false) : fieldsOk l = false := by
  unfold fieldsOk
  rw [Bool.and_eq_false_iff]
  right
  rw [Bool.eq_false_iff]
  intro h2
  rw [List.all_eq_true] at h2
  rw [h2 _ (List.getElem_mem h)] at h1
  cases h1
theorem fo_false2 {l : List FF} {j : Nat} (h : j + 1 < l.length) (h1 : ¬ cmpK (l[j]'(by omega)).key l[j + 1].key < 0) : fieldsOk l = false := by
  unfold fieldsOk
  rw [Bool.and_eq_false_iff]
  left
  rw [Bool.eq_false_iff]
  intro h2
  have := asc_iff.1 h2 j (by rw [List.length_map]; exact h)
  simp at this
  exact h1 this
set_option maxHeartbeats 16000000 in
theorem validFields_any (l : List FF) (w : World) (p : Option Addr) (c : Nat) (h : Rw w p c 4 l FC) : Calls Tryz.prog 88 #[.slice p l.length c] w (ER (fieldsOk l) w) := by
  have H := Lib.hid h
  have hL := h.big
  clear h
  go_enter Tryz.func88, Tryz.ntmps88
  go_wp2
  go_loopw [7] (fun i wr => ∃ k : Nat, i = .int .i64 k ∧ k ≤ l.length ∧ (∀ j (h : j < l.length), j < k → valK l[j].key.kind l[j].key.text.data.toList = true) ∧ (∀ j (h : j + 1 < l.length), j + 1 < k → cmpK (l[j]'(by omega)).key l[j + 1].key < 0) ∧ Below w.heap.size w wr) (fun i _ => l.length - (intOf i).toNat)
  case atStart => exact ⟨0, rfl, by omega, fun j _ h => by omega, fun j _ h => by omega, Below.refl _ _⟩
  case round =>
    obtain ⟨k, rfl, hk, hv, hc, hb⟩ := hrel
    have Hv := Lib.hid hv; have Hc := Lib.hid hc; have Hb := Lib.hid hb
    clear hv hc hb
    by_cases hlt : k < l.length
    · obtain ⟨a, o, cs, rfl, hab, -, hrng, rfl⟩ := H.out.all hlt
      have hr := hrng wr Hb.out
      have z0 := hr 0 _ rfl
      have z1 := hr 1 _ rfl
      have z2 := hr 2 _ rfl
      have z3 := hr 3 _ rfl
      rw [Nat.add_zero] at z0
      have Hnv := Lib.hid (show valK l[k].key.kind l[k].key.text.data.toList = true → ∀ j (h : j < l.length), j < k + 1 → valK l[j].key.kind l[j].key.text.data.toList = true from fun h j hj hjk => by
        rcases Nat.lt_succ_iff_lt_or_eq.1 hjk with g | rfl
        · exact Hv.out j hj g
        · exact h)
      have Hno := Lib.hid (fo_false1 hlt)
      clear hr hrng
      rcases Nat.eq_zero_or_pos k with hk0 | hk0
      · subst hk0
        simp only [Nat.zero_mul, Nat.add_zero] at z0 z1 z2 z3
        have Hnc := Lib.hid (show ∀ j (h : j + 1 < l.length), j + 1 < 0 + 1 → cmpK (l[j]'(by omega)).key l[j + 1].key < 0 from fun j h hj => by omega)
        clear Hc
        generalize l[0] = f at *
        obtain ⟨wo', hwo⟩ : ∃ wo' : World, wo' = wr := ⟨_, rfl⟩
        subst hwo
        go_upto_region 4 with fail
        have hnew := heap_alloc_new wo' (.cells #[.int .i64 f.key.kind, .string f.key.text, .int .i64 f.node, .bool f.opt] 75)
        have ho : Below wo'.heap.size wo' (wo'.alloc (.cells #[.int .i64 f.key.kind, .string f.key.text, .int .i64 f.node, .bool f.opt] 75)) := (Below.refl _ _).alloc (Nat.le_refl _) _
        generalize wo'.alloc (.cells #[.int .i64 f.key.kind, .string f.key.text, .int .i64 f.node, .bool f.opt] 75) = w5 at *
        have Hb5 := Lib.hid (Hb.out.step ho)
        obtain ⟨a0, a1, a2, a3⟩ := cells4 hnew
        have LB := Lib.hid (show wo'.heap.size < w5.drew.heap.size from heap_lt hnew)
        have YB := Lib.hid (show w5.drew.cell? ⟨wo'.heap.size, 0, none⟩ = _ from a0)
        have Hvk := Lib.hid (validKey_any f.key.kind f.key.text w5.drew)
        clear z0 z1 z2 z3 hnew ho
        cases hvk : valK f.key.kind f.key.text.data.toList with
        | true =>
          have Hnv2 := Lib.hid (Hnv.out hvk)
          rw [hvk] at Hvk
          clear hvk
          go_wp2_with (first
            | ((with_reducible refine Lex.at_finK ?_); refine LexK.finE_on (by kernel_rfl) (by repeat first | exact LexK.finL_nil | refine LexK.finL_none rfl ?_ | refine LexK.finL_skip (by decide +kernel) ?_ | refine LexK.finL_take rfl LB.out YB.out ?_) ?_)
            | ((with_reducible refine Lex.at_region ?_); refine LexK.wp_region_lexE (fun x => x < w5.drew.heap.size) (by kernel_rfl) (by decide +kernel) ?_)
            | ((with_reducible refine Lex.at_wpX ?_); with_reducible refine LexK.wpX_plain (by decide +kernel) ?_)
            | ((with_reducible refine Lex.at_wpX ?_); with_reducible refine LexK.wpX_call ?_)
            | ((with_reducible refine Lex.at_wpX ?_); with_reducible refine LexK.wpX_nil ?_)
            | ((with_reducible refine Lex.at_ext ?_); first | (with_reducible refine LexK.ext_on Hext.out ?_) | (with_reducible refine LexK.ext_on (LexK.Ext.refl _) ?_))
            | (go_at_call 115; refine Hvk.out.mono ?_; rintro e w6 ⟨rfl, hb6⟩; have Hext := Lib.hid (LexK.Ext.of_below (Kp := fun x => x < w5.drew.heap.size) hb6 (Nat.le_refl _)); have Hb6 := Lib.hid (Hb5.out.drew.step hb6); clear hb6))
          exact ⟨⟨0 + 1, by go_num, by omega, Hnv2.out, Hnc.out, Hb6.out⟩, by simp [intOf]; omega⟩
        | false =>
          have Hf := Lib.hid (Hno.out hvk)
          rw [hvk] at Hvk
          clear hvk
          go_wp2_with (first
            | ((with_reducible refine Lex.at_finK ?_); refine LexK.finE_on (by kernel_rfl) (by repeat first | exact LexK.finL_nil | refine LexK.finL_none rfl ?_ | refine LexK.finL_skip (by decide +kernel) ?_ | refine LexK.finL_take rfl LB.out YB.out ?_) ?_)
            | ((with_reducible refine Lex.at_region ?_); refine LexK.wp_region_lexE (fun x => x < w5.drew.heap.size) (by kernel_rfl) (by decide +kernel) ?_)
            | ((with_reducible refine Lex.at_wpX ?_); with_reducible refine LexK.wpX_plain (by decide +kernel) ?_)
            | ((with_reducible refine Lex.at_wpX ?_); with_reducible refine LexK.wpX_call ?_)
            | ((with_reducible refine Lex.at_wpX ?_); with_reducible refine LexK.wpX_nil ?_)
            | ((with_reducible refine Lex.at_ext ?_); first | (with_reducible refine LexK.ext_on Hext.out ?_) | (with_reducible refine LexK.ext_on (LexK.Ext.refl _) ?_))
            | (go_at_call 115; refine Hvk.out.mono ?_; rintro e w6 ⟨rfl, hb6⟩; have Hext := Lib.hid (LexK.Ext.of_below (Kp := fun x => x < w5.drew.heap.size) hb6 (Nat.le_refl _)); have Hb6 := Lib.hid (Hb5.out.drew.step hb6); clear hb6))
          go_ret
          rw [Hf.out]
          exact ⟨rfl, Hb6.out⟩
      · obtain ⟨k, rfl⟩ : ∃ k', k = k' + 1 := ⟨k - 1, by omega⟩
        have hk1 : k < l.length := by omega
        obtain ⟨a', o', cs', ep, hab', -, hrng', rfl⟩ := H.out.all hk1
        injection ep with ep
        injection ep with ep1 ep2
        subst ep1 ep2
        have hr' := hrng' wr Hb.out
        have y0 := hr' 0 _ rfl
        have y1 := hr' 1 _ rfl
        rw [Nat.add_zero] at y0
        have Hno2 := Lib.hid (fo_false2 hlt)
        have Hnc := Lib.hid (show cmpK l[k].key l[k + 1].key < 0 → ∀ j (h : j + 1 < l.length), j + 1 < k + 1 + 1 → cmpK (l[j]'(by omega)).key l[j + 1].key < 0 from fun g j h hj => by
          rcases Nat.lt_succ_iff_lt_or_eq.1 hj with g2 | g2
          · exact Hc.out j h g2
          · obtain rfl : j = k := by omega
            exact g)
        clear Hc hr' hrng'
        generalize l[k + 1] = f at *
        generalize l[k] = q at *
        obtain ⟨wo', hwo⟩ : ∃ wo' : World, wo' = wr := ⟨_, rfl⟩
        subst hwo
        go_upto_region 4 with fail
        have hnew := heap_alloc_new wo' (.cells #[.int .i64 f.key.kind, .string f.key.text, .int .i64 f.node, .bool f.opt] 75)
        have ho : Below wo'.heap.size wo' (wo'.alloc (.cells #[.int .i64 f.key.kind, .string f.key.text, .int .i64 f.node, .bool f.opt] 75)) := (Below.refl _ _).alloc (Nat.le_refl _) _
        generalize wo'.alloc (.cells #[.int .i64 f.key.kind, .string f.key.text, .int .i64 f.node, .bool f.opt] 75) = w5 at *
        have Hb5 := Lib.hid (Hb.out.step ho)
        obtain ⟨a0, a1, a2, a3⟩ := cells4 hnew
        have haw : a < wo'.heap.size := Nat.lt_of_lt_of_le hab Hb.out.size
        have y0' := (ho.cell (p := ⟨a, _, none⟩) haw).trans y0
        have y1' := (ho.cell (p := ⟨a, _, none⟩) haw).trans y1
        have LB := Lib.hid (show wo'.heap.size < w5.drew.heap.size from heap_lt hnew)
        have YB := Lib.hid (show w5.drew.cell? ⟨wo'.heap.size, 0, none⟩ = _ from a0)
        have LK := Lib.hid (show a < w5.drew.heap.size from Nat.lt_of_lt_of_le haw ho.size)
        have YK := Lib.hid (show w5.drew.cell? ⟨a, o + k * 4, none⟩ = _ from y0')
        have Hvk := Lib.hid (validKey_any f.key.kind f.key.text w5.drew)
        clear z0 z1 z2 z3 y0 y1 hnew ho
        cases hvk : valK f.key.kind f.key.text.data.toList with
        | true =>
          have Hnv2 := Lib.hid (Hnv.out hvk)
          rw [hvk] at Hvk
          clear hvk
          have HKc := Lib.hid (keys_any q.key f.key)
          by_cases hz : cmpK q.key f.key < 0
          · have Hnc2 := Lib.hid (Hnc.out hz)
            have d1 : decide (0 ≤ cmpK q.key f.key) = false := by simp; omega
            clear hz
            generalize cmpK q.key f.key = cc at *
            go_wp2_with (first
              | ((with_reducible refine Lex.at_finK ?_); refine LexK.finE_on (by kernel_rfl) (by repeat first | exact LexK.finL_nil | refine LexK.finL_none rfl ?_ | refine LexK.finL_skip (by decide +kernel) ?_ | refine LexK.finL_take rfl LB.out YB.out ?_ | refine LexK.finL_take rfl LK.out YK.out ?_) ?_)
              | ((with_reducible refine Lex.at_region ?_); refine LexK.wp_region_lexE (fun x => x < w5.drew.heap.size) (by kernel_rfl) (by decide +kernel) ?_)
              | ((with_reducible refine Lex.at_wpX ?_); with_reducible refine LexK.wpX_plain (by decide +kernel) ?_)
              | ((with_reducible refine Lex.at_wpX ?_); with_reducible refine LexK.wpX_call ?_)
              | ((with_reducible refine Lex.at_wpX ?_); with_reducible refine LexK.wpX_nil ?_)
              | ((with_reducible refine Lex.at_ext ?_); first | (with_reducible refine LexK.ext_on Hext.out ?_) | (with_reducible refine LexK.ext_on (LexK.Ext.refl _) ?_))
              | (go_at_call 115; refine Hvk.out.mono ?_; rintro e w6 ⟨rfl, hb6⟩; have x0 := (hb6.cell (p := ⟨a, _, none⟩) LK.out).trans y0'; have x1 := (hb6.cell (p := ⟨a, _, none⟩) LK.out).trans y1'; have b0 := (hb6.cell (p := ⟨wo'.heap.size, _, none⟩) LB.out).trans a0; have b1 := (hb6.cell (p := ⟨wo'.heap.size, _, none⟩) LB.out).trans a1; have Hext := Lib.hid (LexK.Ext.of_below (Kp := fun x => x < w5.drew.heap.size) hb6 (Nat.le_refl _)); have Hb6 := Lib.hid (Hb5.out.drew.step hb6); clear hb6)
              | (go_at_call 116; refine (HKc.out w6).mono ?_; rintro e w7 ⟨rfl, hb7⟩; have Hext := Lib.hid (LexK.Ext.of_below (Kp := fun x => x < w5.drew.heap.size) hb7 (Nat.le_refl _)); have Hb7 := Lib.hid (Hb6.out.step hb7); clear hb7))
            exact ⟨⟨k + 1 + 1, by go_num, by omega, Hnv2.out, Hnc2.out, Hb7.out⟩, by simp [intOf]; omega⟩
          · have Hf := Lib.hid (Hno2.out hz)
            have d1 : decide (0 ≤ cmpK q.key f.key) = true := by simp; omega
            clear hz
            generalize cmpK q.key f.key = cc at *
            go_wp2_with (first
              | ((with_reducible refine Lex.at_finK ?_); refine LexK.finE_on (by kernel_rfl) (by repeat first | exact LexK.finL_nil | refine LexK.finL_none rfl ?_ | refine LexK.finL_skip (by decide +kernel) ?_ | refine LexK.finL_take rfl LB.out YB.out ?_ | refine LexK.finL_take rfl LK.out YK.out ?_) ?_)
              | ((with_reducible refine Lex.at_region ?_); refine LexK.wp_region_lexE (fun x => x < w5.drew.heap.size) (by kernel_rfl) (by decide +kernel) ?_)
              | ((with_reducible refine Lex.at_wpX ?_); with_reducible refine LexK.wpX_plain (by decide +kernel) ?_)
              | ((with_reducible refine Lex.at_wpX ?_); with_reducible refine LexK.wpX_call ?_)
              | ((with_reducible refine Lex.at_wpX ?_); with_reducible refine LexK.wpX_nil ?_)
              | ((with_reducible refine Lex.at_ext ?_); first | (with_reducible refine LexK.ext_on Hext.out ?_) | (with_reducible refine LexK.ext_on (LexK.Ext.refl _) ?_))
              | (go_at_call 115; refine Hvk.out.mono ?_; rintro e w6 ⟨rfl, hb6⟩; have x0 := (hb6.cell (p := ⟨a, _, none⟩) LK.out).trans y0'; have x1 := (hb6.cell (p := ⟨a, _, none⟩) LK.out).trans y1'; have b0 := (hb6.cell (p := ⟨wo'.heap.size, _, none⟩) LB.out).trans a0; have b1 := (hb6.cell (p := ⟨wo'.heap.size, _, none⟩) LB.out).trans a1; have Hext := Lib.hid (LexK.Ext.of_below (Kp := fun x => x < w5.drew.heap.size) hb6 (Nat.le_refl _)); have Hb6 := Lib.hid (Hb5.out.drew.step hb6); clear hb6)
              | (go_at_call 116; refine (HKc.out w6).mono ?_; rintro e w7 ⟨rfl, hb7⟩; have Hext := Lib.hid (LexK.Ext.of_below (Kp := fun x => x < w5.drew.heap.size) hb7 (Nat.le_refl _)); have Hb7 := Lib.hid (Hb6.out.step hb7); clear hb7))
            go_ret
            rw [Hf.out]
            exact ⟨rfl, Hb7.out⟩
        | false =>
          have Hf := Lib.hid (Hno.out hvk)
          rw [hvk] at Hvk
          clear hvk
          go_wp2_with (first
            | ((with_reducible refine Lex.at_finK ?_); refine LexK.finE_on (by kernel_rfl) (by repeat first | exact LexK.finL_nil | refine LexK.finL_none rfl ?_ | refine LexK.finL_skip (by decide +kernel) ?_ | refine LexK.finL_take rfl LB.out YB.out ?_ | refine LexK.finL_take rfl LK.out YK.out ?_) ?_)
            | ((with_reducible refine Lex.at_region ?_); refine LexK.wp_region_lexE (fun x => x < w5.drew.heap.size) (by kernel_rfl) (by decide +kernel) ?_)
            | ((with_reducible refine Lex.at_wpX ?_); with_reducible refine LexK.wpX_plain (by decide +kernel) ?_)
            | ((with_reducible refine Lex.at_wpX ?_); with_reducible refine LexK.wpX_call ?_)
            | ((with_reducible refine Lex.at_wpX ?_); with_reducible refine LexK.wpX_nil ?_)
            | ((with_reducible refine Lex.at_ext ?_); first | (with_reducible refine LexK.ext_on Hext.out ?_) | (with_reducible refine LexK.ext_on (LexK.Ext.refl _) ?_))
            | (go_at_call 115; refine Hvk.out.mono ?_; rintro e w6 ⟨rfl, hb6⟩; have Hext := Lib.hid (LexK.Ext.of_below (Kp := fun x => x < w5.drew.heap.size) hb6 (Nat.le_refl _)); have Hb6 := Lib.hid (Hb5.out.drew.step hb6); clear hb6))
          go_ret
          rw [Hf.out]
          exact ⟨rfl, Hb6.out⟩
    · obtain rfl : k = l.length := by omega
      have Hy := Lib.hid (fo_true (fun j h => Hv.out j h h) (fun j h => Hc.out j h h))
      go_wp2
      go_ret
      rw [Hy.out]
      exact ⟨rfl, Hb.out⟩
end Go.Proofs.YtjgldaaofdpcgaaGreat
