/-
  Walks: combine.
-/
import Derived.Test.YtkppcibffbnhoaaE3
namespace Go.Proofs.Ytkppcibffbnhoaa
open Go.RowKit

theorem apply54 (c : CP) : ∀ (m : Nat) (x y R : T) (L : List T) (K : List (Nat × Nat)) (f : Nat × Nat → Option Int) (v : Value) (w : World), x.sz + y.sz ≤ m → CI c L K f v w → inn c.La x → inn c.Lb y → R.Ok → (∀ a, R.ev a = c.op (x.ev a) (y.ev a)) →
    Calls Try.prog 54 #[.int .i64 (ref c.La x), .int .i64 (ref c.Lb y), .pointer (some ⟨c.opv, 0, none⟩), .pointer (some ⟨c.rsv, 0, none⟩), .pointer (some ⟨c.av, 0, none⟩), .pointer (some ⟨c.bv, 0, none⟩), .pointer (some ⟨c.ouv, 0, none⟩), .pointer (some ⟨c.apv, 0, none⟩)] w (AR c R (x.sz + y.sz) L K v w) := by
  intro m
  induction m with
  | zero =>
    intro x y R L K f v w hm h ix iy oR hR
    cases x with
    | n l a b => simp [T.sz] at hm
    | c p => cases y with
      | n l a b => simp [T.sz] at hm
      | c q => exact apply_const c _ _ _ R L K f v w h p q rfl rfl oR hR
  | succ m ih =>
    intro x y R L K f v w hm h ix iy oR hR
    by_cases hc : x.lit = 12 ∧ y.lit = 12
    · obtain ⟨p, rfl⟩ := c_of_lit (inn_ok h.s.wfA ix) (by omega)
      obtain ⟨q, rfl⟩ := c_of_lit (inn_ok h.s.wfB iy) (by omega)
      exact apply_const c _ _ _ R L K f v w h p q rfl rfl oR hR
    have lx := lit_le (inn_ok h.s.wfA ix)
    have ly := lit_le (inn_ok h.s.wfB iy)
    have hn : min x.lit y.lit < 12 := by omega
    have hg : 2 ≤ ref c.La x ∨ ref c.La x < 2 ∧ 2 ≤ ref c.Lb y := by
      cases x with
      | n l a b => left; simp only [ref]; omega
      | c p => cases y with
        | n l a b => right; exact ⟨(refc _ _).1, by simp only [ref]; omega⟩
        | c q => exact absurd ⟨rfl, rfl⟩ hc
    cases hf : f (ref c.La x, ref c.Lb y) with
    | some r => exact apply_hit c _ x y R L K f v w h ix iy oR hR hg r hf
    | none =>
      refine apply_miss c x y R L K f v w h ix iy oR hR hg hf _ rfl hn ?_
      intro x' y' R' L K f v w hxy hC i1 i2 oR' hR'
      refine ih x' y' R' L K f v w ?_ hC i1 i2 oR' hR'
      rcases hxy with ⟨rfl, rfl⟩ | ⟨rfl, rfl⟩
      · have a1 := hi_sz (n := min x.lit y.lit) x
        have a2 := hi_sz (n := min x.lit y.lit) y
        rcases Nat.lt_or_ge x.lit y.lit with h1 | h1
        · have := a1.2 (by omega) hn; omega
        · have := a2.2 (by omega) hn; omega
      · have a1 := lo_sz (n := min x.lit y.lit) x
        have a2 := lo_sz (n := min x.lit y.lit) y
        rcases Nat.lt_or_ge x.lit y.lit with h1 | h1
        · have := a1.2 (by omega) hn; omega
        · have := a2.2 (by omega) hn; omega

theorem CI.ext4 {c : CP} {L : List T} {K : List (Nat × Nat)} {f : Nat × Nat → Option Int} {v v' : Value} {w w' : World} (h : CI c L K f v w) (hf : Fr [c.b, c.kb, c.rm] v v' w w') : LexK.Ext (fun x => x = c.ouv ∨ x = c.apv ∨ x = c.av ∨ x = c.bv) w w' := by
  obtain ⟨a1, b1⟩ := h.far h.s.ouv (by decide) (by decide)
  obtain ⟨a2, b2⟩ := h.far h.s.apv (by decide) (by decide)
  obtain ⟨a3, b3⟩ := h.far h.s.av (by decide) (by decide)
  obtain ⟨a4, b4⟩ := h.far h.s.bv (by decide) (by decide)
  refine ext_fr hf ?_ ?_
  · rintro x hx (rfl | rfl | rfl | rfl)
    · exact a1 hx
    · exact a2 hx
    · exact a3 hx
    · exact a4 hx
  · rintro g hg (rfl | rfl | rfl | rfl)
    · exact b1 hg
    · exact b2 hg
    · exact b3 hg
    · exact b4 hg

set_option maxRecDepth 100000
set_option maxHeartbeats 8000000 in
theorem combine_any (OP : Nat) (op : Bool → Bool → Bool) (hcf : ∀ args w, (callFunc OP args).run Try.prog w = .ok (.enter OP args) w) (hop : ∀ p q w, Calls Try.prog OP #[.bool p, .bool q] w fun e w' => e = .returned (.bool (op p q)) ∧ w = w')
    (va vb : Value) (s t R : T) (w : World) (ha : DV w va s) (hb : DV w vb t) (oR : R.Ok) (hR : ∀ a, R.ev a = op (s.ev a) (t.ev a)) :
    Calls Try.prog 38 #[va, vb, .func (.func OP) #[] #[]] w fun e w' => ∃ v, e = .returned v ∧ DV w' v R ∧ Below w.heap.size w w' := by
  obtain ⟨pa, ca, rfl, hna⟩ := id ha.dd.ex
  obtain ⟨pb, cb, rfl, hnb⟩ := id hb.dd.ex
  have hA1 := (Below.refl w.heap.size w).alloc (Nat.le_refl _) (.cells #[.slice pa (canonN s).length ca, .int .i64 (canonR s)] 24)
  have hn1 := heap_alloc_new w (.cells #[.slice pa (canonN s).length ca, .int .i64 (canonR s)] 24)
  have hs1 : (w.alloc (.cells #[.slice pa (canonN s).length ca, .int .i64 (canonR s)] 24)).heap.size = w.heap.size + 1 := by simp
  have HA := Lib.hid ha; have HB := Lib.hid hb; clear ha hb
  have Hna := Lib.hid hna; have Hnb := Lib.hid hnb; clear hna hnb
  have hwfA := (canon_wf HA.out.ok)
  have hwfB := (canon_wf HB.out.ok)
  have hlA := canon_len HA.out.ok
  have hlB := canon_len HB.out.ok
  have Hop := Lib.hid hop; clear hop
  have HR := Lib.hid hR; clear hR
  have OR := Lib.hid oR; clear oR
  have hmm := @run_makeMap Try.prog
  have hmf : ∀ (fn : Fn) (first cap : Array Value) (w : World), (Instr.makeFunc fn first cap).run Try.prog w = .ok (.func fn first cap) w := fun _ _ _ _ => rfl
  go_enter Try.func38, Try.ntmps38
  go_upto_region 1 with fail
  generalize w.alloc (.cells #[.slice pa (canonN s).length ca, .int .i64 (canonR s)] 24) = w1 at *
  have hA2 := (Below.refl w1.heap.size w1).alloc (Nat.le_refl _) (.cells #[.slice pb (canonN t).length cb, .int .i64 (canonR t)] 24)
  have hn2 := heap_alloc_new w1 (.cells #[.slice pb (canonN t).length cb, .int .i64 (canonR t)] 24)
  have hs2 : (w1.alloc (.cells #[.slice pb (canonN t).length cb, .int .i64 (canonR t)] 24)).heap.size = w1.heap.size + 1 := by simp
  generalize w1.alloc (.cells #[.slice pb (canonN t).length cb, .int .i64 (canonR t)] 24) = w2 at *
  have hA3 := (Below.refl w2.heap.size w2).alloc (Nat.le_refl _) (.cells #[.func (.func OP) #[] #[]] 67)
  have hn3 := heap_alloc_new w2 (.cells #[.func (.func OP) #[] #[]] 67)
  have hs3 : (w2.alloc (.cells #[.func (.func OP) #[] #[]] 67)).heap.size = w2.heap.size + 1 := by simp
  generalize w2.alloc (.cells #[.func (.func OP) #[] #[]] 67) = w3 at *
  have hA4 := (Below.refl w3.heap.size w3).alloc (Nat.le_refl _) (.cells #[.slice none 0 0, .int .i64 0] 24)
  have hn4 := heap_alloc_new w3 (.cells #[.slice none 0 0, .int .i64 0] 24)
  have hs4 : (w3.alloc (.cells #[.slice none 0 0, .int .i64 0] 24)).heap.size = w3.heap.size + 1 := by simp
  generalize w3.alloc (.cells #[.slice none 0 0, .int .i64 0] 24) = w4 at *
  rw [hs1] at hs2 hn2 hA2
  rw [hs2] at hs3 hn3 hA3
  rw [hs3] at hs4 hn4 hA4
  have hb14 : Below w1.heap.size w1 w4 := by rw [hs1]; exact hA2.trans ((hA3.mono (by omega)).trans (hA4.mono (by omega)))
  have hb24 : Below w2.heap.size w2 w4 := by rw [hs2]; exact hA3.trans (hA4.mono (by omega))
  have hb34 : Below w3.heap.size w3 w4 := by rw [hs3]; exact hA4
  have hb04 := hA1.trans (hb14.mono (by omega))
  have k1 := (hb14.block _ (heap_lt hn1)).trans hn1
  have k2 := (hb24.block _ (heap_lt hn2)).trans hn2
  have k3 := (hb34.block _ (heap_lt hn3)).trans hn3
  clear hn1 hn2 hn3 hA1 hA2 hA3 hA4 hb14 hb24 hb34 hs1 hs2 hs3
  have hsA := fun wx (hw : Below w.heap.size w wx) => sound_tree _ s wx (HA.out.below hw)
  have hsB := fun wx (hw : Below w.heap.size w wx) => sound_tree _ t wx (HB.out.below hw)
  obtain ⟨a0, a1, -⟩ := cells2 k1
  obtain ⟨b0, b1, -⟩ := cells2 k2
  have y0 := Lib.hid (show w4.drew.cell? ⟨w.heap.size, 0, none⟩ = _ from a0)
  have y1 := Lib.hid (show w4.drew.cell? ⟨w.heap.size + 1, 0, none⟩ = _ from b0)
  have K1 := Lib.hid k1; have K2 := Lib.hid k2; have K3 := Lib.hid k3; have K4 := Lib.hid hn4
  clear k1 k2 k3 hn4
  have Hs4 := Lib.hid hs4; clear hs4
  have Hb4 := Lib.hid (show Below w.heap.size w w4.drew from hb04.drew); clear hb04
  have hlt1 : w.heap.size + 1 < w4.drew.heap.size := by have := Hs4.out; show _ < w4.heap.size; omega
  have hlt0 : w.heap.size < w4.drew.heap.size := by omega
  go_upto_region 2 with (first
    | ((with_reducible refine Lex.at_finK ?_); refine LexK.finE_on (by kernel_rfl) (by repeat first | exact LexK.finL_nil | refine LexK.finL_none rfl ?_ | refine LexK.finL_skip (by decide +kernel) ?_ | refine LexK.finL_take rfl (.inl rfl) y0.out ?_ | refine LexK.finL_take rfl (.inr rfl) y1.out ?_) ?_)
    | ((with_reducible refine Lex.at_region ?_); refine LexK.wp_region_lexE (fun x => x = w.heap.size ∨ x = w.heap.size + 1) (by kernel_rfl) (by decide +kernel) ?_)
    | ((with_reducible refine Lex.at_wpX ?_); with_reducible refine LexK.wpX_plain (by decide +kernel) ?_)
    | ((with_reducible refine Lex.at_wpX ?_); with_reducible refine LexK.wpX_call ?_)
    | ((with_reducible refine Lex.at_wpX ?_); with_reducible refine LexK.wpX_nil ?_)
    | ((with_reducible refine Lex.at_ext ?_); with_reducible refine LexK.ext_on Hext.out ?_)
    | (go_at_call 42; ((with_reducible refine (hsA _ Hb4.out).mono ?_); rintro e w5 ⟨rfl, hb5⟩; have Hb5 := Lib.hid hb5; have Hext := Lib.hid (LexK.Ext.of_below (Kp := fun x => x = w.heap.size ∨ x = w.heap.size + 1) Hb5.out (Nat.le_refl _)); have Hb05 := Lib.hid (Hb4.out.step Hb5.out); have hsz5 := Hb5.out.size; obtain ⟨b50, b51, -⟩ := cells2 ((Hb5.out.block _ hlt1).trans K2.out); clear hb5))
    | (go_at_call 42; ((with_reducible refine (hsB _ Hb05.out).mono ?_); rintro e w6 ⟨rfl, hb6⟩; have Hb6 := Lib.hid hb6; have Hext := Lib.hid (LexK.Ext.of_below (Kp := fun x => x = w.heap.size ∨ x = w.heap.size + 1) Hb6.out (Nat.le_refl _)); have Hb06 := Lib.hid (Hb05.out.step Hb6.out); have hb56 := Hb5.out.step Hb6.out; have K16 := Lib.hid ((hb56.block _ hlt0).trans K1.out); have K26 := Lib.hid ((hb56.block _ hlt1).trans K2.out); clear hb6))
    | (with_reducible refine wpList_store_row rfl 24 (.tmp 3) (.tmp 11) rfl _ _ rfl rfl _ _ K16.out (by kernel_rfl) (by kernel_rfl) (by kernel_rfl) ?_)
    | (with_reducible refine wpList_store_row rfl 24 (.tmp 4) (.tmp 13) rfl _ _ rfl rfl _ _ ((setRow_other _ _ _ _ (by omega)).trans K26.out) (by kernel_rfl) (by kernel_rfl) (by kernel_rfl) ?_))
  have j1 : ((w6.setRow w.heap.size #[.slice pa (canonN s).length ca, .int .i64 (canonR s)]).setRow (w.heap.size + 1) #[.slice pb (canonN t).length cb, .int .i64 (canonR t)]).heap[w.heap.size]? = some (.cells #[.slice pa (canonN s).length ca, .int .i64 (canonR s)] 24) := (setRow_other _ _ _ _ (by omega)).trans (setRow_heap _ _ _ _ _ _ K16.out)
  have j2 : ((w6.setRow w.heap.size #[.slice pa (canonN s).length ca, .int .i64 (canonR s)]).setRow (w.heap.size + 1) #[.slice pb (canonN t).length cb, .int .i64 (canonR t)]).heap[w.heap.size + 1]? = some (.cells #[.slice pb (canonN t).length cb, .int .i64 (canonR t)] 24) := setRow_heap _ _ _ _ _ _ ((setRow_other _ _ _ _ (by omega)).trans K26.out)
  have K36 := (hb56.block _ (heap_lt K3.out)).trans K3.out
  have K46 := (hb56.block _ (heap_lt K4.out)).trans K4.out
  have j3 : ((w6.setRow w.heap.size #[.slice pa (canonN s).length ca, .int .i64 (canonR s)]).setRow (w.heap.size + 1) #[.slice pb (canonN t).length cb, .int .i64 (canonR t)]).heap[w.heap.size + 1 + 1]? = some (.cells #[.func (.func OP) #[] #[]] 67) := (setRow_other _ _ _ _ (by omega)).trans ((setRow_other _ _ _ _ (by omega)).trans K36)
  have j4 : ((w6.setRow w.heap.size #[.slice pa (canonN s).length ca, .int .i64 (canonR s)]).setRow (w.heap.size + 1) #[.slice pb (canonN t).length cb, .int .i64 (canonR t)]).heap[w.heap.size + 1 + 1 + 1]? = some (.cells #[.slice none 0 0, .int .i64 0] 24) := (setRow_other _ _ _ _ (by omega)).trans ((setRow_other _ _ _ _ (by omega)).trans K46)
  have j5 := below_setRow (g := w.heap.size + 1) (cells := #[.slice pb (canonN t).length cb, .int .i64 (canonR t)]) (below_setRow (g := w.heap.size) (cells := #[.slice pa (canonN s).length ca, .int .i64 (canonR s)]) Hb06.out (Nat.le_refl _)) (by omega)
  clear K36 K46 hb56 K16 K26 Hb06 Hb05 Hb5 Hb6 K1 K2 K3 K4 Hext y0 y1 b50 b51 a0 a1 b0 b1 hsA hsB Hb4 Hs4 hlt0 hlt1 hsz5
  generalize ((w6.setRow w.heap.size #[.slice pa (canonN s).length ca, .int .i64 (canonR s)]).setRow (w.heap.size + 1) #[.slice pb (canonN t).length cb, .int .i64 (canonR t)]) = w7 at *
  have J1 := Lib.hid j1; have J2 := Lib.hid j2; have J3 := Lib.hid j3; have J4 := Lib.hid j4; have J5 := Lib.hid j5
  have jl := heap_lt j4
  clear j1 j2 j3 j4 j5
  have hNB := newbuilder_pack w7
  go_upto_region 3 with (go_at_call 29; refine hNB.mono ?_; rintro e w8 ⟨b, kb, rfl, hB8, hb1, hk1, hb8⟩; have HB8 := Lib.hid hB8; have Hb8 := Lib.hid hb8; clear hB8 hb8)
  have q9 := heap_alloc_new w8 (.cells #[.pointer (some ⟨b, 0, none⟩)] 58)
  have p9 : Below w8.heap.size w8 (w8.alloc (.cells #[.pointer (some ⟨b, 0, none⟩)] 58)) := (Below.refl _ _).alloc (Nat.le_refl _) _
  have z9 : (w8.alloc (.cells #[.pointer (some ⟨b, 0, none⟩)] 58)).heap.size = w8.heap.size + 1 := by simp
  generalize w8.alloc (.cells #[.pointer (some ⟨b, 0, none⟩)] 58) = w9 at *
  have HB9 := Lib.hid (HB8.out.below p9)
  have Hb9 := Lib.hid (Hb8.out.step p9)
  have hb9s := Hb9.out.size
  have hb8s := Hb8.out.size
  have Q9 := Lib.hid q9; have Z9 := Lib.hid z9
  clear q9 p9 z9 HB8 hNB
  go_upto_region 6 with fail
  have m0 : MV (w9.alloc (.map #[] 0)) 83 lit2 good2 w9.heap.size 0 fun _ => none := MV.made w9 83 lit2 good2
  have p10 : Below w9.heap.size w9 (w9.alloc (.map #[] 0)) := (Below.refl _ _).alloc (Nat.le_refl _) _
  have z10 : (w9.alloc (.map #[] 0)).heap.size = w9.heap.size + 1 := by simp
  have q11 := heap_alloc_new (w9.alloc (.map #[] 0)) (.cells #[.map (some w9.heap.size)] 81)
  have p11 : Below (w9.heap.size + 1) (w9.alloc (.map #[] 0)) ((w9.alloc (.map #[] 0)).alloc (.cells #[.map (some w9.heap.size)] 81)) := by rw [← z10]; exact (Below.refl _ _).alloc (Nat.le_refl _) _
  rw [z10] at q11
  have z11 : ((w9.alloc (.map #[] 0)).alloc (.cells #[.map (some w9.heap.size)] 81)).heap.size = w9.heap.size + 1 + 1 := by simp
  generalize w9.alloc (.map #[] 0) = w10 at *
  generalize w10.alloc (.cells #[.map (some w9.heap.size)] 81) = w11 at *
  have q12 := heap_alloc_new w11 (.cells #[.func (.func 54) #[] #[.pointer (some ⟨w.heap.size + 1 + 1, 0, none⟩), .pointer (some ⟨w9.heap.size + 1, 0, none⟩), .pointer (some ⟨w.heap.size, 0, none⟩), .pointer (some ⟨w.heap.size + 1, 0, none⟩), .pointer (some ⟨w8.heap.size, 0, none⟩), .pointer (some ⟨w9.heap.size + 1 + 1, 0, none⟩)]] 82)
  have p12 : Below (w9.heap.size + 1 + 1) w11 (w11.alloc (.cells #[.func (.func 54) #[] #[.pointer (some ⟨w.heap.size + 1 + 1, 0, none⟩), .pointer (some ⟨w9.heap.size + 1, 0, none⟩), .pointer (some ⟨w.heap.size, 0, none⟩), .pointer (some ⟨w.heap.size + 1, 0, none⟩), .pointer (some ⟨w8.heap.size, 0, none⟩), .pointer (some ⟨w9.heap.size + 1 + 1, 0, none⟩)]] 82)) := by rw [← z11]; exact (Below.refl _ _).alloc (Nat.le_refl _) _
  have z12 : (w11.alloc (.cells #[.func (.func 54) #[] #[.pointer (some ⟨w.heap.size + 1 + 1, 0, none⟩), .pointer (some ⟨w9.heap.size + 1, 0, none⟩), .pointer (some ⟨w.heap.size, 0, none⟩), .pointer (some ⟨w.heap.size + 1, 0, none⟩), .pointer (some ⟨w8.heap.size, 0, none⟩), .pointer (some ⟨w9.heap.size + 1 + 1, 0, none⟩)]] 82)).heap.size = w9.heap.size + 1 + 1 + 1 := by simp [z11]
  rw [z11] at q12
  generalize w11.alloc (.cells #[.func (.func 54) #[] #[.pointer (some ⟨w.heap.size + 1 + 1, 0, none⟩), .pointer (some ⟨w9.heap.size + 1, 0, none⟩), .pointer (some ⟨w.heap.size, 0, none⟩), .pointer (some ⟨w.heap.size + 1, 0, none⟩), .pointer (some ⟨w8.heap.size, 0, none⟩), .pointer (some ⟨w9.heap.size + 1 + 1, 0, none⟩)]] 82) = w12 at *
  have zz9 := Z9.out
  have pA : Below w9.heap.size w9 w12 := p10.trans ((p11.mono (by omega)).trans (p12.mono (by omega)))
  have q11' := (p12.block _ (by omega)).trans q11
  have m12 : MV w12 83 lit2 good2 w9.heap.size 0 fun _ => none := (m0.at (p11.block _ (by omega))).at (p12.block _ (by omega))
  have pB : Below w7.heap.size w7 w12 := Hb9.out.step pA
  have q9' := (pA.block _ (by omega)).trans Q9.out
  have i1 := (pB.block _ (by omega)).trans J1.out
  have i2 := (pB.block _ (by omega)).trans J2.out
  have i3 := (pB.block _ (by omega)).trans J3.out
  have i4 := (pB.block _ (by omega)).trans J4.out
  have pC : Below w.heap.size w w12 := J5.out.step pB
  have hkl := HB9.out.kn.lt
  have hCI : CI ⟨w.heap.size, w.heap.size + 1 + 1, w9.heap.size + 1, w.heap.size, w.heap.size + 1, w8.heap.size, w9.heap.size + 1 + 1, b, kb, w9.heap.size, OP, op, pa, ca, canonR s, canonL s, pb, cb, canonR t, canonL t⟩ [] [] (fun _ => none) (.slice none 0 0) w12 := by
    refine ⟨⟨i3, q11', i1, i2, q9', q12, Hna.out.nz.below pC, Hnb.out.nz.below pC, hwfA.1, hwfB.1, ?_, ?_, ?_, ?_, ?_, ?_, ?_, hcf, Hop.out⟩, ⟨?_, m12, Wf.nil, Memo.start _ _ _ _, Nat.le_refl _⟩⟩
    · show (canonL s).length ≤ 4095
      rw [← nodes_length]; exact hlA
    · show (canonL t).length ≤ 4095
      rw [← nodes_length]; exact hlB
    · show w.heap.size ≤ b; omega
    · show w.heap.size ≤ kb; omega
    · show w.heap.size ≤ w9.heap.size; omega
    · show kb ≠ w9.heap.size; omega
    · show w.heap.size ≤ w12.heap.size; omega
    · exact (HB9.out.below pA).lower (by show w.heap.size ≤ _; omega)
  have hCId : CI ⟨w.heap.size, w.heap.size + 1 + 1, w9.heap.size + 1, w.heap.size, w.heap.size + 1, w8.heap.size, w9.heap.size + 1 + 1, b, kb, w9.heap.size, OP, op, pa, ca, canonR s, canonL s, pb, cb, canonR t, canonL t⟩ [] [] (fun _ => none) (.slice none 0 0) w12.drew := hCI.drewN 1
  have h54 := apply54 ⟨w.heap.size, w.heap.size + 1 + 1, w9.heap.size + 1, w.heap.size, w.heap.size + 1, w8.heap.size, w9.heap.size + 1 + 1, b, kb, w9.heap.size, OP, op, pa, ca, canonR s, canonL s, pb, cb, canonR t, canonL t⟩ _ s t R [] [] _ _ w12.drew (Nat.le_refl _) hCId hwfA.2 hwfB.2 OR.out HR.out
  have Hext0 := Lib.hid (fun v' w' hf => hCId.ext4 (v' := v') (w' := w') hf)
  have Hkeep0 := Lib.hid (fun v' w' hf => hCId.keep (v' := v') (w' := w') hf (show w12.drew.heap[w.heap.size + 1 + 1 + 1]? = _ from i4) (by decide) (by decide))
  have Hlow0 := Lib.hid (fun v' w' hf => hCId.low (v' := v') (w' := w') hf)
  dsimp only at h54 Hext0 Hkeep0 Hlow0
  obtain ⟨x0, x1, -⟩ := cells2 i1
  obtain ⟨x2, x3, -⟩ := cells2 i2
  obtain ⟨x4, -⟩ := cells1 q9'
  obtain ⟨x5, -⟩ := cells1 q12
  have y1 := Lib.hid (show w12.drew.cell? ⟨w.heap.size, 1, none⟩ = _ from x1)
  have y3 := Lib.hid (show w12.drew.cell? ⟨w.heap.size + 1, 1, none⟩ = _ from x3)
  have y4 := Lib.hid (show w12.drew.cell? ⟨w8.heap.size, 0, none⟩ = _ from x4)
  have y5 := Lib.hid (show w12.drew.cell? ⟨w9.heap.size + 1 + 1, 0, none⟩ = _ from x5)
  have PC := Lib.hid pC
  have hrs : ref (canonL s) s = canonR s := rfl
  have hrt : ref (canonL t) t = canonR t := rfl
  rw [hrs, hrt] at h54
  have H54 := Lib.hid h54
  clear hrs hrt h54 pC i1 i2 i3 i4 q9' q12 q11 q11' m12 m0 pA pB p10 p11 p12 z10 z11 z12 zz9 hCI hCId hkl x0 x2 J1 J2 J3 J4 J5 hwfA hwfB hlA hlB Hna Hnb HA HB Hop HR Q9 Z9 HB9 Hb9 Hb8 hmm hmf
  go_wp2_with (first
    | ((with_reducible refine Lex.at_finK ?_); refine LexK.finE_on (by kernel_rfl) (by repeat first | exact LexK.finL_nil | refine LexK.finL_none rfl ?_ | refine LexK.finL_skip (by decide +kernel) ?_ | refine LexK.finL_take rfl (.inl rfl) y4.out ?_ | refine LexK.finL_take rfl (.inr (.inl rfl)) y5.out ?_ | refine LexK.finL_take rfl (.inr (.inr (.inl rfl))) y1.out ?_ | refine LexK.finL_take rfl (.inr (.inr (.inr rfl))) y3.out ?_) ?_)
    | ((with_reducible refine Lex.at_region ?_); refine LexK.wp_region_lexE (fun x => x = w8.heap.size ∨ x = w9.heap.size + 1 + 1 ∨ x = w.heap.size ∨ x = w.heap.size + 1) (by kernel_rfl) (by decide +kernel) ?_)
    | ((with_reducible refine Lex.at_wpX ?_); with_reducible refine LexK.wpX_plain (by decide +kernel) ?_)
    | ((with_reducible refine Lex.at_wpX ?_); with_reducible refine LexK.wpX_call ?_)
    | ((with_reducible refine Lex.at_wpX ?_); with_reducible refine LexK.wpX_nil ?_)
    | ((with_reducible refine Lex.at_ext ?_); with_reducible refine LexK.ext_on Hext.out ?_)
    | (go_at_call 54; ((with_reducible refine (H54.out).mono ?_); rintro e w13 ⟨L1, K1, f1, v1, rfl, -, i1, hC1, hf1, -⟩; have Hfin := Lib.hid (finish_any w.heap.size b kb v1 L1 R w13 hC1.t.bd hC1.t.wf (by have := hC1.t.lens hC1.s; omega) i1 OR.out); dsimp only at hf1; have Hf1 := Lib.hid hf1; have Hext := Lib.hid (Hext0.out _ _ Hf1.out); have Hk13 := Lib.hid (Hkeep0.out _ _ Hf1.out); have Hl13 := Lib.hid (PC.out.drew.trans (Hlow0.out _ _ Hf1.out)); clear hC1 i1 hf1))
    | (go_at_call 33; ((with_reducible refine (Hfin.out).mono ?_); rintro e w14 ⟨dv, rfl, hdv, hb14⟩; obtain ⟨p14, c14, rfl, -⟩ := id hdv.dd.ex; have Hdv := Lib.hid hdv; have Hext := Lib.hid (LexK.Ext.of_below (Kp := fun x => x = w8.heap.size ∨ x = w9.heap.size + 1 + 1 ∨ x = w.heap.size ∨ x = w.heap.size + 1) hb14 (Nat.le_refl _)); have Hk14 := Lib.hid ((hb14.block _ (heap_lt Hk13.out)).trans Hk13.out); have Hl14 := Lib.hid (Hl13.out.step hb14); clear hb14 hdv))
    | (with_reducible refine wpList_store_row rfl 24 (.tmp 6) (.tmp 24) rfl _ _ rfl rfl _ _ Hk14.out (by kernel_rfl) (by kernel_rfl) (by kernel_rfl) ?_))
  refine bodyPost_ret (results_cell_row rfl _ _ (w.heap.size + 1 + 1 + 1) 24 _ (0, 0) _ rfl (setRow_heap _ _ _ _ _ _ Hk14.out) rfl rfl (by kernel_rfl)) rfl ?_
  exact ⟨_, rfl, Hdv.out.setRow Hk14.out, below_setRow Hl14.out (by omega)⟩
end Go.Proofs.Ytkppcibffbnhoaa
