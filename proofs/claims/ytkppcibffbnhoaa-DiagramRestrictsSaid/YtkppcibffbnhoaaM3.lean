/-
  Walks: Restrict.
-/
import Derived.Test.YtkppcibffbnhoaaM2
namespace Go.Proofs.Ytkppcibffbnhoaa
open Go.RowKit
set_option maxRecDepth 100000

theorem rest49 (c : QP) : ∀ (m : Nat) (s R : T) (L : List T) (K : List Nat) (f : Nat → Option Int) (v : Value) (w : World), s.sz ≤ m → QI c L K f v w → inn c.La s → Rst c.ln c.vb s R →
    Calls Try.prog 49 #[.int .i64 (ref c.La s : Nat), .pointer (some ⟨c.rsv, 0, none⟩), .pointer (some ⟨c.av, 0, none⟩), .pointer (some ⟨c.apv, 0, none⟩), .pointer (some ⟨c.lv, 0, none⟩), .pointer (some ⟨c.ouv, 0, none⟩), .pointer (some ⟨c.bv, 0, none⟩)] w (QR c R s.sz L K v w) := by
  intro m
  induction m with
  | zero =>
    intro s R L K f v w hm h is hR
    cases s with
    | n l a b => simp [T.sz] at hm
    | c x =>
      have hc : (f (ref c.La (.c x))).isSome = true := by cases x; exact h.t.memo.c0; exact h.t.memo.c1
      obtain ⟨r, hr⟩ := Option.isSome_iff_exists.1 hc
      exact rest_hit c _ _ R L K f v w h is hR r hr
  | succ m ih =>
    intro s R L K f v w hm h is hR
    cases hf : f (ref c.La s) with
    | some r => exact rest_hit c _ _ R L K f v w h is hR r hf
    | none =>
      cases s with
      | c x =>
        have hc : (f (ref c.La (.c x))).isSome = true := by cases x; exact h.t.memo.c0; exact h.t.memo.c1
        rw [hf] at hc; cases hc
      | n l a b =>
        refine rest_miss c l a b R L K f v w h is hR hf ?_
        intro s' R' L K f v w hs hq i1 h1
        refine ih s' R' L K f v w ?_ hq i1 h1
        simp only [T.sz] at hm
        rcases hs with rfl | rfl <;> omega
theorem QI.ext3 {c : QP} {L : List T} {K : List Nat} {f : Nat → Option Int} {v v' : Value} {w w' : World} (h : QI c L K f v w) (hf : Fr [c.b, c.kb, c.rm] v v' w w') : LexK.Ext (fun x => x = c.ouv ∨ x = c.apv ∨ x = c.av) w w' := by
  obtain ⟨a1, b1⟩ := h.far' h.s.ouv (by decide) (by decide)
  obtain ⟨a2, b2⟩ := h.far' h.s.apv (by decide) (by decide)
  obtain ⟨a3, b3⟩ := h.far' h.s.av (by decide) (by decide)
  refine ext_fr hf ?_ ?_
  · rintro x hx (rfl | rfl | rfl)
    · exact a1 hx
    · exact a2 hx
    · exact a3 hx
  · rintro g hg (rfl | rfl | rfl)
    · exact b1 hg
    · exact b2 hg
    · exact b3 hg

set_option maxHeartbeats 16000000 in
theorem restrict_any (va : Value) (ln : Int) (vb : Bool) (s R : T) (w : World) (ha : DV w va s) (hR : Rst ln vb s R) :
    Calls Try.prog 25 #[va, .int .i64 ln, .bool vb] w fun e w' => ∃ v, e = .returned v ∧ DV w' v R ∧ Below w.heap.size w w' := by
  obtain ⟨pa, ca, rfl, hna⟩ := id ha.dd.ex
  have hA1 := (Below.refl w.heap.size w).alloc (Nat.le_refl _) (.cells #[.slice pa (canonN s).length ca, .int .i64 (canonR s)] 24)
  have hn1 := heap_alloc_new w (.cells #[.slice pa (canonN s).length ca, .int .i64 (canonR s)] 24)
  have hs1 : (w.alloc (.cells #[.slice pa (canonN s).length ca, .int .i64 (canonR s)] 24)).heap.size = w.heap.size + 1 := by simp
  have HA := Lib.hid ha; have Hna := Lib.hid hna; clear ha hna
  have hwfA := (canon_wf HA.out.ok)
  have hlA := canon_len HA.out.ok
  have HR := Lib.hid hR; clear hR
  have hmm := @run_makeMap Try.prog
  have hmf : ∀ (fn : Fn) (first cap : Array Value) (w : World), (Instr.makeFunc fn first cap).run Try.prog w = .ok (.func fn first cap) w := fun _ _ _ _ => rfl
  go_enter Try.func25, Try.ntmps25
  go_upto_region 1 with fail
  generalize w.alloc (.cells #[.slice pa (canonN s).length ca, .int .i64 (canonR s)] 24) = w1 at *
  have hA2 := (Below.refl w1.heap.size w1).alloc (Nat.le_refl _) (.cells #[.int .i64 ln] 3)
  have hn2 := heap_alloc_new w1 (.cells #[.int .i64 ln] 3)
  have hs2 : (w1.alloc (.cells #[.int .i64 ln] 3)).heap.size = w1.heap.size + 1 := by simp
  generalize w1.alloc (.cells #[.int .i64 ln] 3) = w2 at *
  have hA3 := (Below.refl w2.heap.size w2).alloc (Nat.le_refl _) (.cells #[.bool vb] 4)
  have hn3 := heap_alloc_new w2 (.cells #[.bool vb] 4)
  have hs3 : (w2.alloc (.cells #[.bool vb] 4)).heap.size = w2.heap.size + 1 := by simp
  generalize w2.alloc (.cells #[.bool vb] 4) = w3 at *
  have hA4 := (Below.refl w3.heap.size w3).alloc (Nat.le_refl _) (.cells #[.slice none 0 0, .int .i64 0] 24)
  have hn4 := heap_alloc_new w3 (.cells #[.slice none 0 0, .int .i64 0] 24)
  have hs4 : (w3.alloc (.cells #[.slice none 0 0, .int .i64 0] 24)).heap.size = w3.heap.size + 1 := by simp
  generalize w3.alloc (.cells #[.slice none 0 0, .int .i64 0] 24) = w4 at *
  rw [hs1] at hs2 hn2 hA2
  rw [hs2] at hs3 hn3 hA3
  rw [hs3] at hs4 hn4 hA4
  have hb14 : Below w1.heap.size w1 w4 := by rw [hs1]; exact hA2.trans ((hA3.mono (by omega)).trans (hA4.mono (by omega)))
  have hb24 : Below w2.heap.size w2 w4 := by rw [hs2]; exact hA3.trans (hA4.mono (by omega))
  have hb34 : Below w3.heap.size w3 w4 := by rw [hs3]; exact hA4
  have hb04 := hA1.trans (hb14.mono (by omega))
  have k1 := (hb14.block _ (heap_lt hn1)).trans hn1
  have k2 := (hb24.block _ (heap_lt hn2)).trans hn2
  have k3 := (hb34.block _ (heap_lt hn3)).trans hn3
  clear hn1 hn2 hn3 hA1 hA2 hA3 hA4 hb14 hb24 hb34 hs1 hs2 hs3
  have hsA := sound_tree _ s w4 (HA.out.below hb04)
  obtain ⟨a0, a1, -⟩ := cells2 k1
  have K1 := Lib.hid k1; have K2 := Lib.hid k2; have K3 := Lib.hid k3; have K4 := Lib.hid hn4; have HsA := Lib.hid hsA
  clear k1 k2 k3 hn4 hsA
  have Hs4 := Lib.hid hs4; clear hs4
  have Hb4 := Lib.hid hb04; clear hb04
  go_upto_region 2 with (first
    | (go_at_call 42; ((with_reducible refine HsA.out.mono ?_); rintro e w5 ⟨rfl, hb5⟩; have Hb5 := Lib.hid hb5; have K15 := Lib.hid ((hb5.block _ (heap_lt K1.out)).trans K1.out); clear hb5))
    | (with_reducible refine wpList_store_row rfl 24 (.tmp 3) (.tmp 11) rfl _ _ rfl rfl _ _ K15.out (by kernel_rfl) (by kernel_rfl) (by kernel_rfl) ?_))
  have j1 := setRow_heap w5 w.heap.size _ #[.slice pa (canonN s).length ca, .int .i64 (canonR s)] 24 _ K15.out
  have j2 : (w5.setRow w.heap.size #[.slice pa (canonN s).length ca, .int .i64 (canonR s)]).heap[w.heap.size + 1]? = _ := (setRow_other _ _ _ _ (by omega)).trans ((Hb5.out.block _ (heap_lt K2.out)).trans K2.out)
  have j3 : (w5.setRow w.heap.size #[.slice pa (canonN s).length ca, .int .i64 (canonR s)]).heap[w.heap.size + 1 + 1]? = _ := (setRow_other _ _ _ _ (by omega)).trans ((Hb5.out.block _ (heap_lt K3.out)).trans K3.out)
  have j4 : (w5.setRow w.heap.size #[.slice pa (canonN s).length ca, .int .i64 (canonR s)]).heap[w.heap.size + 1 + 1 + 1]? = _ := (setRow_other _ _ _ _ (by omega)).trans ((Hb5.out.block _ (heap_lt K4.out)).trans K4.out)
  have j5 := below_setRow (g := w.heap.size) (cells := #[.slice pa (canonN s).length ca, .int .i64 (canonR s)]) (Hb4.out.step Hb5.out) (Nat.le_refl _)
  clear a0 a1 K15 Hb5 HsA K1 K2 K3 K4 Hs4 Hb4
  generalize w5.setRow w.heap.size #[.slice pa (canonN s).length ca, .int .i64 (canonR s)] = w7 at *
  have J1 := Lib.hid j1; have J2 := Lib.hid j2; have J3 := Lib.hid j3; have J4 := Lib.hid j4; have J5 := Lib.hid j5
  have jl := heap_lt j4
  clear j1 j2 j3 j4 j5
  have hNB := newbuilder_pack w7
  go_upto_region 3 with (go_at_call 29; refine hNB.mono ?_; rintro e w8 ⟨b, kb, rfl, hB8, hb1, hk1, hb8⟩; have HB8 := Lib.hid hB8; have Hb8 := Lib.hid hb8; clear hB8 hb8)
  have q9 := heap_alloc_new w8 (.cells #[.pointer (some ⟨b, 0, none⟩)] 58)
  have p9 : Below w8.heap.size w8 (w8.alloc (.cells #[.pointer (some ⟨b, 0, none⟩)] 58)) := (Below.refl _ _).alloc (Nat.le_refl _) _
  have z9 : (w8.alloc (.cells #[.pointer (some ⟨b, 0, none⟩)] 58)).heap.size = w8.heap.size + 1 := by simp
  generalize w8.alloc (.cells #[.pointer (some ⟨b, 0, none⟩)] 58) = w9 at *
  have HB9 := Lib.hid (HB8.out.below p9)
  have Hb9 := Lib.hid (Hb8.out.step p9)
  have hb9s := Hb9.out.size
  have hb8s := Hb8.out.size
  have Q9 := Lib.hid q9; have Z9 := Lib.hid z9
  clear q9 p9 z9 HB8 hNB
  have hM0 : MV (w9.alloc (.map #[] 0)) 3 lit1 good1 w9.heap.size 0 fun _ => none := MV.made w9 3 lit1 good1
  have HM0 := Lib.hid hM0; clear hM0
  go_upto_region 4 with (first
    | ((with_reducible refine at_insert ?_); refine wpList_mv_put code1 (by kernel_rfl) _ rfl _ _ _ (.inr rfl) w9.heap.size 0 (fun _ => none) rfl HM0.out (by omega) 0 (show 0 ≤ _ by omega) rfl 0 rfl (by decide) ?_; intro w5' hm5 ht5; have Hm5 := Lib.hid hm5; clear hm5; have Ht5 := Lib.hid ht5; clear ht5)
    | ((with_reducible refine at_insert ?_); (refine wpList_mv_put code1 (by kernel_rfl) _ rfl _ _ _ (.inr rfl) w9.heap.size 1 _ rfl Hm5.out (by omega) 1 (show 1 ≤ _ by omega) rfl 1 rfl (by decide) ?_; intro w6 hm6 ht6; have Hm6 := Lib.hid hm6; clear hm6; have Ht6 := Lib.hid ht6; clear ht6)))
  go_upto_region 6 with fail
  have hm6 := Hm6.out
  have hp6 := hm6.lt
  have hk96 : ∀ k, k < w9.heap.size → w6.heap[k]? = w9.heap[k]? := fun k hk => by
    have h5 := Ht5.out.grown.block k (by simp; omega) (by simp; omega)
    have hs5 := Ht5.out.grown.size
    have h6 := Ht6.out.grown.block k (by simp at hs5; omega) (by simp; omega)
    exact h6.trans (h5.trans (((Below.refl _ w9).alloc (Nat.le_refl _) (.map #[] 0)).block k hk))
  have hb96 : Below w9.heap.size w9 w6 := ⟨Ht6.out.grown.os.trans Ht5.out.grown.os, Ht6.out.grown.tape.trans Ht5.out.grown.tape, Ht6.out.grown.output.trans Ht5.out.grown.output, by omega, hk96⟩
  clear hk96 Hm5 Ht5 Hm6 Ht6 HM0
  have q11 := heap_alloc_new w6 (.cells #[.map (some w9.heap.size)] 72)
  have p11 : Below w6.heap.size w6 (w6.alloc (.cells #[.map (some w9.heap.size)] 72)) := (Below.refl _ _).alloc (Nat.le_refl _) _
  have z11 : (w6.alloc (.cells #[.map (some w9.heap.size)] 72)).heap.size = w6.heap.size + 1 := by simp
  generalize w6.alloc (.cells #[.map (some w9.heap.size)] 72) = w11 at *
  have q12 := heap_alloc_new w11 (.cells #[.func (.func 49) #[] #[.pointer (some ⟨w6.heap.size, 0, none⟩), .pointer (some ⟨w.heap.size, 0, none⟩), .pointer (some ⟨w6.heap.size + 1, 0, none⟩), .pointer (some ⟨w.heap.size + 1, 0, none⟩), .pointer (some ⟨w8.heap.size, 0, none⟩), .pointer (some ⟨w.heap.size + 1 + 1, 0, none⟩)]] 73)
  have p12 : Below w11.heap.size w11 (w11.alloc (.cells #[.func (.func 49) #[] #[.pointer (some ⟨w6.heap.size, 0, none⟩), .pointer (some ⟨w.heap.size, 0, none⟩), .pointer (some ⟨w6.heap.size + 1, 0, none⟩), .pointer (some ⟨w.heap.size + 1, 0, none⟩), .pointer (some ⟨w8.heap.size, 0, none⟩), .pointer (some ⟨w.heap.size + 1 + 1, 0, none⟩)]] 73)) := (Below.refl _ _).alloc (Nat.le_refl _) _
  generalize w11.alloc (.cells #[.func (.func 49) #[] #[.pointer (some ⟨w6.heap.size, 0, none⟩), .pointer (some ⟨w.heap.size, 0, none⟩), .pointer (some ⟨w6.heap.size + 1, 0, none⟩), .pointer (some ⟨w.heap.size + 1, 0, none⟩), .pointer (some ⟨w8.heap.size, 0, none⟩), .pointer (some ⟨w.heap.size + 1 + 1, 0, none⟩)]] 73) = w12 at *
  have p6c : Below w6.heap.size w6 w12 := p11.step p12
  have q11' := (p12.block _ (heap_lt q11)).trans q11
  rw [z11] at q12
  have pA : Below w9.heap.size w9 w12 := hb96.step p6c
  have m12 := hm6.at (p6c.block _ hp6)
  have pB : Below w7.heap.size w7 w12 := Hb9.out.step pA
  have q9' := (pA.block _ (heap_lt Q9.out)).trans Q9.out
  have i1 := (pB.block _ (heap_lt J1.out)).trans J1.out
  have i2 := (pB.block _ (heap_lt J2.out)).trans J2.out
  have i3 := (pB.block _ (heap_lt J3.out)).trans J3.out
  have i4 := (pB.block _ (heap_lt J4.out)).trans J4.out
  have pC : Below w.heap.size w w12 := J5.out.step pB
  have hkl := HB9.out.kn.lt
  have hz9 := Z9.out
  have hQI : QI ⟨w.heap.size, w6.heap.size, w.heap.size, w6.heap.size + 1, w.heap.size + 1, w8.heap.size, w.heap.size + 1 + 1, b, kb, w9.heap.size, ln, vb, pa, ca, canonR s, canonL s⟩ [] [1, 0] (fun z => if z = 1 then some 1 else if z = 0 then some 0 else none) (.slice none 0 0) w12 := by
    refine ⟨⟨q11', i1, i2, q9', i3, q12, Hna.out.nz.below pC, hwfA.1, ?_, ?_, ?_, ?_, ?_, ?_⟩, ⟨?_, m12, Wf.nil, Mem1.start _ _ _ _, by simp⟩⟩
    · show (canonL s).length ≤ 4095
      rw [← nodes_length]; exact hlA
    · show w.heap.size ≤ b; omega
    · show w.heap.size ≤ kb; omega
    · show w.heap.size ≤ w9.heap.size; omega
    · show kb ≠ w9.heap.size; omega
    · show w.heap.size ≤ w12.heap.size; exact pC.size
    · exact (HB9.out.below pA).lower (by show w.heap.size ≤ _; omega)
  have hQId : QI ⟨w.heap.size, w6.heap.size, w.heap.size, w6.heap.size + 1, w.heap.size + 1, w8.heap.size, w.heap.size + 1 + 1, b, kb, w9.heap.size, ln, vb, pa, ca, canonR s, canonL s⟩ [] [1, 0] (fun z => if z = 1 then some 1 else if z = 0 then some 0 else none) (.slice none 0 0) w12.drew := hQI.drewN 1
  have h49 := rest49 ⟨w.heap.size, w6.heap.size, w.heap.size, w6.heap.size + 1, w.heap.size + 1, w8.heap.size, w.heap.size + 1 + 1, b, kb, w9.heap.size, ln, vb, pa, ca, canonR s, canonL s⟩ _ s R [] [1, 0] _ _ w12.drew (Nat.le_refl _) hQId hwfA.2 HR.out
  have Hext0 := Lib.hid (fun v' w' hf => hQId.ext3 (v' := v') (w' := w') hf)
  have Hkeep0 := Lib.hid (fun v' w' hf => hQId.keep (v' := v') (w' := w') hf (show w12.drew.heap[w.heap.size + 1 + 1 + 1]? = _ from i4) (by decide) (by decide))
  have Hlow0 := Lib.hid (fun v' w' hf => hQId.low (v' := v') (w' := w') hf)
  dsimp only at h49 Hext0 Hkeep0 Hlow0
  obtain ⟨x0, x1, -⟩ := cells2 i1
  obtain ⟨x4, -⟩ := cells1 q9'
  obtain ⟨x5, -⟩ := cells1 q12
  have y1 := Lib.hid (show w12.drew.cell? ⟨w.heap.size, 1, none⟩ = _ from x1)
  have y4 := Lib.hid (show w12.drew.cell? ⟨w8.heap.size, 0, none⟩ = _ from x4)
  have y5 := Lib.hid (show w12.drew.cell? ⟨w6.heap.size + 1, 0, none⟩ = _ from x5)
  have PC := Lib.hid pC
  have hrs : ref (canonL s) s = canonR s := rfl
  rw [hrs] at h49
  have H49 := Lib.hid h49
  have OR' := Lib.hid HR.out.ok
  clear hrs h49 pC i1 i2 i3 i4 q9' q12 q11 q11' m12 pA pB p11 p12 p6c z11 hz9 hQI hQId hkl x0 J1 J2 J3 J4 J5 hwfA hlA Hna HA HR Q9 Z9 HB9 Hb9 Hb8 hmm hmf hm6 hp6 hb96
  go_wp2_with (first
    | ((with_reducible refine Lex.at_finK ?_); refine LexK.finE_on (by kernel_rfl) (by repeat first | exact LexK.finL_nil | refine LexK.finL_none rfl ?_ | refine LexK.finL_skip (by decide +kernel) ?_ | refine LexK.finL_take rfl (.inl rfl) y4.out ?_ | refine LexK.finL_take rfl (.inr (.inl rfl)) y5.out ?_ | refine LexK.finL_take rfl (.inr (.inr rfl)) y1.out ?_) ?_)
    | ((with_reducible refine Lex.at_region ?_); refine LexK.wp_region_lexE (fun x => x = w8.heap.size ∨ x = w6.heap.size + 1 ∨ x = w.heap.size) (by kernel_rfl) (by decide +kernel) ?_)
    | ((with_reducible refine Lex.at_wpX ?_); with_reducible refine LexK.wpX_plain (by decide +kernel) ?_)
    | ((with_reducible refine Lex.at_wpX ?_); with_reducible refine LexK.wpX_call ?_)
    | ((with_reducible refine Lex.at_wpX ?_); with_reducible refine LexK.wpX_nil ?_)
    | ((with_reducible refine Lex.at_ext ?_); with_reducible refine LexK.ext_on Hext.out ?_)
    | (go_at_call 49; ((with_reducible refine (H49.out).mono ?_); rintro e w13 ⟨L1, K1, f1, v1, rfl, -, i1, hC1, hf1, -⟩; have Hfin := Lib.hid (finish_any w.heap.size b kb v1 L1 R w13 hC1.t.bd hC1.t.wf (by have := hC1.t.lens hC1.s; omega) i1 OR'.out); dsimp only at hf1; have Hf1 := Lib.hid hf1; have Hext := Lib.hid (Hext0.out _ _ Hf1.out); have Hk13 := Lib.hid (Hkeep0.out _ _ Hf1.out); have Hl13 := Lib.hid (PC.out.drew.trans (Hlow0.out _ _ Hf1.out)); clear hC1 i1 hf1))
    | (go_at_call 33; ((with_reducible refine (Hfin.out).mono ?_); rintro e w14 ⟨dv, rfl, hdv, hb14⟩; obtain ⟨p14, c14, rfl, -⟩ := id hdv.dd.ex; have Hdv := Lib.hid hdv; have Hext := Lib.hid (LexK.Ext.of_below (Kp := fun x => x = w8.heap.size ∨ x = w6.heap.size + 1 ∨ x = w.heap.size) hb14 (Nat.le_refl _)); have Hk14 := Lib.hid ((hb14.block _ (heap_lt Hk13.out)).trans Hk13.out); have Hl14 := Lib.hid (Hl13.out.step hb14); clear hb14 hdv))
    | (with_reducible refine wpList_store_row rfl 24 (.tmp 6) (.tmp 21) rfl _ _ rfl rfl _ _ Hk14.out (by kernel_rfl) (by kernel_rfl) (by kernel_rfl) ?_))
  refine bodyPost_ret (results_cell_row rfl _ _ (w.heap.size + 1 + 1 + 1) 24 _ (0, 0) _ rfl (setRow_heap _ _ _ _ _ _ Hk14.out) rfl rfl (by kernel_rfl)) rfl ?_
  exact ⟨_, rfl, Hdv.out.setRow Hk14.out, below_setRow Hl14.out (by omega)⟩
end Go.Proofs.Ytkppcibffbnhoaa
