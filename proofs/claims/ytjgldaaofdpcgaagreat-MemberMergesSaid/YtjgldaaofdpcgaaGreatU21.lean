/- Walks and plain facts for the laws of membership, for all values and types that the heap holds (texts Z2). -/
import Derived.Test.YtjgldaaofdpcgaaGreatU19
import Derived.Test.YtjgldaaofdpcgaaGreatU20
set_option linter.unusedVariables false
set_option linter.unusedSimpArgs false
namespace Go.Proofs.YtjgldaaofdpcgaaGreat
open Go.RowKit
set_option maxRecDepth 100000
theorem SC.one {s : ByteArray} {cs : List Value} (h : SC s cs) : ∀ u ∈ cs, u.oneCell' = true := by unfold SC at h; subst h; intro u hu; simp at hu; subst hu; rfl
theorem str_info : (Tryz.prog.info? 9).map (fun i => (i.zero, i.size, i.bytes)) = some (some (.string ⟨#[]⟩), 1, 16) := by kernel_rfl
set_option maxHeartbeats 32000000 in
theorem sorted_any (E : Nat → Bool) (l : List ByteArray) (w : World) (v : Value) (hE : Old E w.heap.size) (h : SS (we E w) v l) (hl : l.length ≤ 100000) : Calls Tryz.prog 49 #[v] w fun e w' => ∃ v' l', e = .returned v' ∧ SS (we E w') v' l' ∧ l'.length ≤ l.length ∧ Below w.heap.size w w' := by
  have Hbw := Lib.hid hE
  obtain ⟨p, c, rfl, hr⟩ := h
  have HR := Lib.hid hr
  clear hr hE
  go_enter Tryz.func49, Tryz.ntmps49
  go_wp2
  go_loopw [3, 4] (fun v i wr => ∃ (j : Nat) (O : List ByteArray) (xs : List Value), j ≤ l.length ∧ i = .int .i64 j ∧ O.length ≤ j ∧ wr.ownsRow w.heap.size 9 1 v O.length xs ∧ Ch 1 SC O xs ∧ Below w.heap.size w wr) (fun _ i _ => l.length - (intOf i).toNat)
  case atStart => exact ⟨0, [], [], by omega, rfl, by simp, World.ownsRow_nil _ _ _ _, Ch.nil, Below.refl _ _⟩
  case round =>
    obtain ⟨j, O, xs, hj, rfl, hO, ho, hc, hbr⟩ := hrel
    have Ho := Lib.hid ho; have Hc := Lib.hid hc; have Hbr := Lib.hid hbr; have HO := Lib.hid hO
    have hol : O.length ≤ 100000 := by omega
    clear ho hc hbr hO
    by_cases hlt : j < l.length
    · have d9 : decide (j < l.length) = true := by simp; omega
      obtain ⟨a, o, cs, rfl, hab, -, hrg, hX⟩ := HR.out.at hlt
      have hab : a < w.heap.size := by rwa [we_size] at hab
      have Hax := Lib.hid hab
      unfold SC at hX
      subst hX
      have c0 := (we_cell (hrg 0 _ rfl)).2
      simp only [Nat.mul_one, Nat.add_zero] at c0
      have Hlast := Lib.hid hlt
      clear hrg
      generalize l[j] = x at *
      obtain ⟨q, cap1, rfl⟩ := own_slice Ho.out
      have hcap1 : O.length ≤ cap1 := own_cap Ho.out
      go_wp2
      go_loopw [5] (fun i wi => ∃ k : Nat, k ≤ O.length ∧ i = .int .i64 k ∧ wi.ownsRow w.heap.size 9 1 (.slice q O.length cap1) O.length xs ∧ Below w.heap.size w wi) (fun i _ => O.length - (intOf i).toNat)
      case atStart => exact ⟨0, by omega, rfl, Ho.out, Hbr.out⟩
      case round =>
        obtain ⟨k, hk, rfl, ho2, hb2⟩ := hrel
        have Ho2 := Lib.hid ho2; have Hb2 := Lib.hid hb2
        clear ho2 hb2
        have z0 := cell_keep Hb2.out c0
        by_cases hkl : k < O.length
        · have d8 : decide (k < O.length) = true := by simp; omega
          obtain ⟨q', cap', eq', hrw⟩ := own_rw Ho2.out Hc.out (by omega)
          injection eq' with eq1 _ eq3
          subst eq1 eq3
          obtain ⟨g, og, cs', rfl, hg, -, hrg', hY⟩ := hrw.at hkl
          unfold SC at hY
          subst hY
          have v0 := hrg' 0 _ rfl
          simp only [Nat.mul_one, Nat.add_zero] at v0
          clear hrw hrg'
          generalize O[k] = y at *
          cases hb1 : Op.bytesLess y.toList x.toList with
          | true =>
            go_wp2_with (first
              | ((with_reducible refine Lex.at_region ?_); with_reducible refine Lex.wp_region_lex (by kernel_rfl) (by decide +kernel) ?_)
              | ((with_reducible refine Lex.at_fin ?_); with_reducible refine Lex.fin_on (by kernel_rfl) ?_))
            exact ⟨⟨k + 1, by omega, by go_num, ownsRow_below Ho2.out (Below.refl _ _).drew (Nat.le_refl _), Hb2.out.drew⟩, by simp [intOf]; omega⟩
          | false =>
            cases hb2 : (y.toList == x.toList) with
            | true =>
              go_wp2_with (first
                | ((with_reducible refine Lex.at_region ?_); with_reducible refine Lex.wp_region_lex (by kernel_rfl) (by decide +kernel) ?_)
                | ((with_reducible refine Lex.at_fin ?_); with_reducible refine Lex.fin_on (by kernel_rfl) ?_))
              exact ⟨⟨j + 1, O, xs, by omega, by go_num, by have := HO.out; omega, ownsRow_below Ho2.out (Below.refl _ _).drew.drew (Nat.le_refl _), Hc.out, Hb2.out.drew.drew⟩, by simp [intOf]; omega⟩
            | false =>
              go_upto_region 9 with (first
                | ((with_reducible refine Lex.at_region ?_); with_reducible refine Lex.wp_region_lex (by kernel_rfl) (by decide +kernel) ?_)
                | ((with_reducible refine Lex.at_fin ?_); with_reducible refine Lex.fin_on (by kernel_rfl) ?_))
              have Hod := Lib.hid (ownsRow_below Ho2.out (Below.refl _ _).drew.drew (Nat.le_refl _))
              have Hbd := Lib.hid Hb2.out.drew.drew
              clear z0 v0 Ho2 Hb2 hb1 hb2
              generalize wr.drew.drew = wd at *
              have Hrc := Lib.hid (RC.of_own Hod.out)
              have Hone := Lib.hid (Hc.out.cells fun _ _ h => h.one)
              have HcT := Lib.hid (Hc.out.take (k := k) hk)
              have HcD := Lib.hid (Hc.out.drop (k := k) hk)
              have HoT := Lib.hid (fun u hu => Hone.out u (List.mem_of_mem_take (i := k * 1) hu))
              have HoD := Lib.hid (fun u hu => Hone.out u (List.mem_of_mem_drop (i := k * 1) hu))
              have Hlx := Lib.hid (show xs.length = O.length * 1 from Hod.out.1)
              have Hsd := Lib.hid Hbd.out.size
              have HrD := Lib.hid (show RC wd 1 (some ⟨g, og + k, none⟩) (O.length - k) (xs.drop (k * 1)) from by have := Hrc.out.drop hk; simpa using this)
              have Q0 := Lib.hid (cell_keep Hbd.out c0)
              clear c0 d8
              go_wp2_with (first
                | ((with_reducible refine Lex.at_finK ?_); refine LexK.finE_on (by kernel_rfl) (by repeat first | exact LexK.finL_nil | refine LexK.finL_none rfl ?_ | refine LexK.finL_skip (by decide +kernel) ?_ | refine LexK.finL_take rfl Hax.out Hn0.out ?_) ?_)
                | ((with_reducible refine Lex.at_region ?_); refine LexK.wp_region_lexE (fun b => b < w.heap.size) (by kernel_rfl) (by decide +kernel) ?_; have n0 : w3.drew.cell? ⟨a, o + j, none⟩ = _ := (Hb3.out.cell (p := ⟨a, _, none⟩) (Nat.lt_of_lt_of_le Hax.out Hsd.out)).trans Q0.out; have Hn0 := Lib.hid n0)
                | ((with_reducible refine Lex.at_wpX ?_); with_reducible refine LexK.wpX_plain (by decide +kernel) ?_)
                | ((with_reducible refine Lex.at_wpX ?_); with_reducible refine LexK.wpX_call ?_)
                | ((with_reducible refine Lex.at_wpX ?_); with_reducible refine LexK.wpX_nil ?_)
                | ((with_reducible refine Lex.at_ext ?_); first
                    | with_reducible refine LexK.ext_on hex5.out ?_
                    | refine LexK.ext_on hex4.out ?_
                    | refine LexK.ext_on (LexK.Ext.alloc _ _) ?_)
                | (at_builtin; first
                    | (refine wpList_append_ownrc rfl (.const (.slice none 0 0)) (.tmp 47) 26 rfl 9 (by kernel_rfl) str_info rfl (by decide) (by decide) wd.heap.size wd (some ⟨g, og, none⟩) 0 k _ [] (xs.take (k * 1)) (Nat.le_refl _) (.slice none 0 0) rfl rfl (World.ownsRow_nil _ _ _ _) (Hrc.out.take hk) HoT.out (by omega) ?_; intro v3 w3 ho3 hf3; have Hb3 := Lib.hid (hf3.below (Nat.le_refl _) (by simp) (fun g hg => by simp [Value.ownBlock] at hg)); rw [Nat.zero_add, List.nil_append] at ho3; obtain ⟨p3, cap3, rfl⟩ := own_slice ho3; have Ho3 := Lib.hid ho3; clear ho3 hf3)
                    | (refine wpList_append_fr rfl (.tmp 49) (.tmp 54) 26 rfl 9 (by kernel_rfl) str_info rfl (by decide) (by decide) wd.heap.size _ w3.drew.heap.size [.string x] (heap_alloc_new w3.drew _) (Nat.le_trans Hb3.out.size (by simp)) rfl (by intro u hu; simp at hu; subst hu; rfl) (.slice p3 k cap3) k (xs.take (k * 1)) rfl (ownsRow_below Ho3.out ((Below.refl _ _).drew.alloc (Nat.le_refl _) _) (Nat.le_refl _)) (by omega) rfl ?_; intro v4 w4 ho4 hf4; have Hb4 := Lib.hid ((Hb3.out.drew.alloc Hb3.out.size _).trans (hf4.below (Nat.le_trans Hb3.out.size (by simp)) (by simp) fun g hg => (Ho3.out.lt g hg).1)); have hex4 := Lib.hid (show LexK.Ext (fun b => b < w.heap.size) (w3.drew.alloc (.cells #[.string x] 9)) w4 from ext_lt (hf4.below (Nat.le_trans Hsd.out (Nat.le_trans Hb3.out.size (by simp))) (by simp) fun g hg => Nat.le_trans Hsd.out (Ho3.out.lt g hg).1)); obtain ⟨p4, cap4, rfl⟩ := own_slice ho4; have Ho4 := Lib.hid ho4; clear ho4 hf4)
                    | (refine wpList_append_ownrc rfl (.tmp 55) (.tmp 58) 26 rfl 9 (by kernel_rfl) str_info rfl (by decide) (by decide) wd.heap.size w4 (some ⟨g, og + k, none⟩) (k + 1) (O.length - k) _ (xs.take (k * 1) ++ [.string x]) (xs.drop (k * 1)) Hb4.out.size (.slice p4 (k + 1) cap4) rfl rfl Ho4.out (HrD.out.below Hb4.out) HoD.out (by omega) ?_; intro v5 w5 ho5 hf5; have Hb5 := Lib.hid (Hb4.out.trans (hf5.below Hb4.out.size (by simp) fun g hg => (Ho4.out.lt g hg).1)); have hex5 := Lib.hid (show LexK.Ext (fun b => b < w.heap.size) w4 w5 from ext_lt (hf5.below (Nat.le_trans Hsd.out Hb4.out.size) (by simp) fun g hg => Nat.le_trans Hsd.out (Ho4.out.lt g hg).1)); have Ho5 := Lib.hid ho5; clear ho5 hf5)))
              have hlen : (O.take k ++ [x] ++ O.drop k).length = k + 1 + (O.length - k) := by rw [List.length_append, List.length_append, List.length_take, List.length_drop, List.length_singleton]; omega
              refine ⟨⟨j + 1, O.take k ++ [x] ++ O.drop k, xs.take (k * 1) ++ [.string x] ++ (xs.drop (k * 1)), by omega, by go_num, by rw [hlen]; have := HO.out; omega, by rw [hlen]; exact ownsRow_lower Ho5.out Hsd.out, ?_, Hbd.out.trans (Hb5.out.mono Hsd.out)⟩, by simp [intOf]; omega⟩
              exact (HcT.out.append (Ch.single rfl (by unfold SC; rfl))).append HcD.out
        · obtain rfl : k = O.length := by omega
          have d8 : decide (O.length < O.length) = false := by simp
          go_upto_region 9 with (first
            | ((with_reducible refine Lex.at_region ?_); with_reducible refine Lex.wp_region_lex (by kernel_rfl) (by decide +kernel) ?_)
            | ((with_reducible refine Lex.at_fin ?_); with_reducible refine Lex.fin_on (by kernel_rfl) ?_))
          have Hod := Lib.hid (ownsRow_below Ho2.out (Below.refl _ _).drew.drew (Nat.le_refl _))
          have Hbd := Lib.hid Hb2.out.drew.drew
          clear z0 Ho2 Hb2
          generalize wr.drew.drew = wd at *
          have Hrc := Lib.hid (RC.of_own Hod.out)
          have Hone := Lib.hid (Hc.out.cells fun _ _ h => h.one)
          have HcT := Lib.hid (Hc.out.take (k := O.length) (Nat.le_refl _))
          have HcD := Lib.hid (Hc.out.drop (k := O.length) (Nat.le_refl _))
          have HoT := Lib.hid (fun u hu => Hone.out u (List.mem_of_mem_take (i := O.length * 1) hu))
          have HoD := Lib.hid (fun u hu => Hone.out u (List.mem_of_mem_drop (i := O.length * 1) hu))
          have Hlx := Lib.hid (show xs.length = O.length * 1 from Hod.out.1)
          have Hsd := Lib.hid Hbd.out.size
          have Q0 := Lib.hid (cell_keep Hbd.out c0)
          clear c0 d8
          go_wp2_with (first
            | ((with_reducible refine Lex.at_finK ?_); refine LexK.finE_on (by kernel_rfl) (by repeat first | exact LexK.finL_nil | refine LexK.finL_none rfl ?_ | refine LexK.finL_skip (by decide +kernel) ?_ | refine LexK.finL_take rfl Hax.out Hn0.out ?_) ?_)
            | ((with_reducible refine Lex.at_region ?_); refine LexK.wp_region_lexE (fun b => b < w.heap.size) (by kernel_rfl) (by decide +kernel) ?_; have n0 : w3.drew.cell? ⟨a, o + j, none⟩ = _ := (Hb3.out.cell (p := ⟨a, _, none⟩) (Nat.lt_of_lt_of_le Hax.out Hsd.out)).trans Q0.out; have Hn0 := Lib.hid n0)
            | ((with_reducible refine Lex.at_wpX ?_); with_reducible refine LexK.wpX_plain (by decide +kernel) ?_)
            | ((with_reducible refine Lex.at_wpX ?_); with_reducible refine LexK.wpX_call ?_)
            | ((with_reducible refine Lex.at_wpX ?_); with_reducible refine LexK.wpX_nil ?_)
            | ((with_reducible refine Lex.at_ext ?_); first
                | with_reducible refine LexK.ext_on hex5.out ?_
                | refine LexK.ext_on hex4.out ?_
                | refine LexK.ext_on (LexK.Ext.alloc _ _) ?_)
            | (at_builtin; first
                | (refine wpList_append_ownrc rfl (.const (.slice none 0 0)) (.tmp 47) 26 rfl 9 (by kernel_rfl) str_info rfl (by decide) (by decide) wd.heap.size wd q 0 O.length _ [] (xs.take (O.length * 1)) (Nat.le_refl _) (.slice none 0 0) rfl rfl (World.ownsRow_nil _ _ _ _) (Hrc.out.take (Nat.le_refl _)) HoT.out (by omega) ?_; intro v3 w3 ho3 hf3; have Hb3 := Lib.hid (hf3.below (Nat.le_refl _) (by simp) (fun g hg => by simp [Value.ownBlock] at hg)); rw [Nat.zero_add, List.nil_append] at ho3; obtain ⟨p3, cap3, rfl⟩ := own_slice ho3; have Ho3 := Lib.hid ho3; clear ho3 hf3)
                | (refine wpList_append_fr rfl (.tmp 49) (.tmp 54) 26 rfl 9 (by kernel_rfl) str_info rfl (by decide) (by decide) wd.heap.size _ w3.drew.heap.size [.string x] (heap_alloc_new w3.drew _) (Nat.le_trans Hb3.out.size (by simp)) rfl (by intro u hu; simp at hu; subst hu; rfl) (.slice p3 O.length cap3) O.length (xs.take (O.length * 1)) rfl (ownsRow_below Ho3.out ((Below.refl _ _).drew.alloc (Nat.le_refl _) _) (Nat.le_refl _)) (by omega) rfl ?_; intro v4 w4 ho4 hf4; have Hb4 := Lib.hid ((Hb3.out.drew.alloc Hb3.out.size _).trans (hf4.below (Nat.le_trans Hb3.out.size (by simp)) (by simp) fun g hg => (Ho3.out.lt g hg).1)); have hex4 := Lib.hid (show LexK.Ext (fun b => b < w.heap.size) (w3.drew.alloc (.cells #[.string x] 9)) w4 from ext_lt (hf4.below (Nat.le_trans Hsd.out (Nat.le_trans Hb3.out.size (by simp))) (by simp) fun g hg => Nat.le_trans Hsd.out (Ho3.out.lt g hg).1)); obtain ⟨p4, cap4, rfl⟩ := own_slice ho4; have Ho4 := Lib.hid ho4; clear ho4 hf4)
                | (refine wpList_append_ownrc rfl (.tmp 55) (.tmp 58) 26 rfl 9 (by kernel_rfl) str_info rfl (by decide) (by decide) wd.heap.size w4 _ (O.length + 1) 0 _ (xs.take (O.length * 1) ++ [.string x]) [] Hb4.out.size (.slice p4 (O.length + 1) cap4) rfl rfl Ho4.out (RC.nil _ _ _) (by simp) (by omega) ?_; intro v5 w5 ho5 hf5; have Hb5 := Lib.hid (Hb4.out.trans (hf5.below Hb4.out.size (by simp) fun g hg => (Ho4.out.lt g hg).1)); have hex5 := Lib.hid (show LexK.Ext (fun b => b < w.heap.size) w4 w5 from ext_lt (hf5.below (Nat.le_trans Hsd.out Hb4.out.size) (by simp) fun g hg => Nat.le_trans Hsd.out (Ho4.out.lt g hg).1)); have Ho5 := Lib.hid ho5; clear ho5 hf5)))
          have hlen : (O.take O.length ++ [x] ++ O.drop O.length).length = O.length + 1 + 0 := by rw [List.length_append, List.length_append, List.length_take, List.length_drop, List.length_singleton]; omega
          refine ⟨⟨j + 1, O.take O.length ++ [x] ++ O.drop O.length, xs.take (O.length * 1) ++ [.string x] ++ [], by omega, by go_num, by rw [hlen]; have := HO.out; omega, by rw [hlen]; exact ownsRow_lower Ho5.out Hsd.out, ?_, Hbd.out.trans (Hb5.out.mono Hsd.out)⟩, by simp [intOf]; omega⟩
          have hz := HcD.out
          have ez : xs.drop (O.length * 1) = [] := List.drop_eq_nil_of_le (by rw [Hlx.out]; exact Nat.le_refl _)
          rw [ez] at hz
          exact (HcT.out.append (Ch.single rfl (by unfold SC; rfl))).append hz
    · obtain rfl : j = l.length := by omega
      have d9 : decide (l.length < l.length) = false := by simp
      skip
      go_wp2
      go_ret
      obtain ⟨pz, cz, e7, hrw⟩ := own_rw (we_own Ho.out Hbw.out) Hc.out (by omega)
      exact ⟨_, O, rfl, ⟨pz, cz, e7, hrw⟩, (by have := HO.out; omega), Hbr.out⟩
end Go.Proofs.YtjgldaaofdpcgaaGreat
