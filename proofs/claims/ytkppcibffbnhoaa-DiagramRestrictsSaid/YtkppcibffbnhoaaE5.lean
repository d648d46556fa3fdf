/-
  Walks: And, Or, Not on trees.
-/
import Derived.Test.YtkppcibffbnhoaaE4
namespace Go.Proofs.Ytkppcibffbnhoaa
open Go.RowKit
set_option maxRecDepth 100000
set_option maxHeartbeats 4000000 in
theorem andD_any (va vb : Value) (s t R : T) (w : World) (ha : DV w va s) (hb : DV w vb t) (oR : R.Ok) (hR : ∀ a, R.ev a = (fun p q => p && q) (s.ev a) (t.ev a)) :
    Calls Try.prog 13 #[va, vb] w fun e w' => ∃ v, e = .returned v ∧ DV w' v R ∧ Below w.heap.size w w' := by
  obtain ⟨pa, ca, rfl, -⟩ := id ha.dd.ex
  obtain ⟨pb, cb, rfl, -⟩ := id hb.dd.ex
  have hcomb := fun wx (hw : Below w.heap.size w wx) => combine_any 39 (fun p q => p && q) hcf39 and_any _ _ s t R wx (ha.below hw) (hb.below hw) oR hR
  clear ha hb hR oR
  have Hcomb := Lib.hid hcomb; clear hcomb
  go_enter Try.func13, Try.ntmps13
  go_upto_region 1 with fail
  have hb1 := (((Below.refl w.heap.size w).alloc (Nat.le_refl _) (.cells #[.slice pa (canonN s).length ca, .int .i64 (canonR s)] 24)).alloc (by simp) (.cells #[.slice pb (canonN t).length cb, .int .i64 (canonR t)] 24)).alloc (by simp; omega) (.cells #[.slice none 0 0, .int .i64 0] 24)
  have hn1 := heap_alloc_new ((w.alloc (.cells #[.slice pa (canonN s).length ca, .int .i64 (canonR s)] 24)).alloc (.cells #[.slice pb (canonN t).length cb, .int .i64 (canonR t)] 24)) (.cells #[.slice none 0 0, .int .i64 0] 24)
  have hs1 : ((w.alloc (.cells #[.slice pa (canonN s).length ca, .int .i64 (canonR s)] 24)).alloc (.cells #[.slice pb (canonN t).length cb, .int .i64 (canonR t)] 24)).heap.size = w.heap.size + 1 + 1 := by simp
  rw [hs1] at hn1
  clear hs1
  have Hb1 := Lib.hid hb1; have Hn1 := Lib.hid hn1; clear hb1 hn1
  go_wp2_with (first
    | (go_at_call 38; refine (Hcomb.out _ Hb1.out).mono ?_; rintro e w4 ⟨dv, rfl, hdv, hb4⟩; obtain ⟨p4, c4, rfl, -⟩ := id hdv.dd.ex; have Hdv := Lib.hid hdv; have Hn4 := Lib.hid ((hb4.block _ (heap_lt Hn1.out)).trans Hn1.out); have Hb4 := Lib.hid (Hb1.out.step hb4); clear hdv hb4)
    | (with_reducible refine wpList_store_row rfl 24 (.tmp 4) (.tmp 7) rfl _ _ rfl rfl _ _ Hn4.out (by kernel_rfl) (by kernel_rfl) (by kernel_rfl) ?_))
  refine bodyPost_ret (results_cell_row rfl _ _ (w.heap.size + 1 + 1) 24 _ (0, 0) _ rfl (setRow_heap _ _ _ _ _ _ Hn4.out) rfl rfl (by kernel_rfl)) rfl ?_
  exact ⟨_, rfl, Hdv.out.setRow Hn4.out, below_setRow Hb4.out (by omega)⟩

set_option maxHeartbeats 4000000 in
theorem orD_any (va vb : Value) (s t R : T) (w : World) (ha : DV w va s) (hb : DV w vb t) (oR : R.Ok) (hR : ∀ a, R.ev a = (fun p q => p || q) (s.ev a) (t.ev a)) :
    Calls Try.prog 14 #[va, vb] w fun e w' => ∃ v, e = .returned v ∧ DV w' v R ∧ Below w.heap.size w w' := by
  obtain ⟨pa, ca, rfl, -⟩ := id ha.dd.ex
  obtain ⟨pb, cb, rfl, -⟩ := id hb.dd.ex
  have hcomb := fun wx (hw : Below w.heap.size w wx) => combine_any 40 (fun p q => p || q) hcf40 or_any _ _ s t R wx (ha.below hw) (hb.below hw) oR hR
  clear ha hb hR oR
  have Hcomb := Lib.hid hcomb; clear hcomb
  go_enter Try.func14, Try.ntmps14
  go_upto_region 1 with fail
  have hb1 := (((Below.refl w.heap.size w).alloc (Nat.le_refl _) (.cells #[.slice pa (canonN s).length ca, .int .i64 (canonR s)] 24)).alloc (by simp) (.cells #[.slice pb (canonN t).length cb, .int .i64 (canonR t)] 24)).alloc (by simp; omega) (.cells #[.slice none 0 0, .int .i64 0] 24)
  have hn1 := heap_alloc_new ((w.alloc (.cells #[.slice pa (canonN s).length ca, .int .i64 (canonR s)] 24)).alloc (.cells #[.slice pb (canonN t).length cb, .int .i64 (canonR t)] 24)) (.cells #[.slice none 0 0, .int .i64 0] 24)
  have hs1 : ((w.alloc (.cells #[.slice pa (canonN s).length ca, .int .i64 (canonR s)] 24)).alloc (.cells #[.slice pb (canonN t).length cb, .int .i64 (canonR t)] 24)).heap.size = w.heap.size + 1 + 1 := by simp
  rw [hs1] at hn1
  clear hs1
  have Hb1 := Lib.hid hb1; have Hn1 := Lib.hid hn1; clear hb1 hn1
  go_wp2_with (first
    | (go_at_call 38; refine (Hcomb.out _ Hb1.out).mono ?_; rintro e w4 ⟨dv, rfl, hdv, hb4⟩; obtain ⟨p4, c4, rfl, -⟩ := id hdv.dd.ex; have Hdv := Lib.hid hdv; have Hn4 := Lib.hid ((hb4.block _ (heap_lt Hn1.out)).trans Hn1.out); have Hb4 := Lib.hid (Hb1.out.step hb4); clear hdv hb4)
    | (with_reducible refine wpList_store_row rfl 24 (.tmp 4) (.tmp 7) rfl _ _ rfl rfl _ _ Hn4.out (by kernel_rfl) (by kernel_rfl) (by kernel_rfl) ?_))
  refine bodyPost_ret (results_cell_row rfl _ _ (w.heap.size + 1 + 1) 24 _ (0, 0) _ rfl (setRow_heap _ _ _ _ _ _ Hn4.out) rfl rfl (by kernel_rfl)) rfl ?_
  exact ⟨_, rfl, Hdv.out.setRow Hn4.out, below_setRow Hb4.out (by omega)⟩

set_option maxHeartbeats 4000000 in
theorem notD_any (va : Value) (s R : T) (w : World) (ha : DV w va s) (oR : R.Ok) (hR : ∀ a, R.ev a = !(s.ev a)) :
    Calls Try.prog 16 #[va] w fun e w' => ∃ v, e = .returned v ∧ DV w' v R ∧ Below w.heap.size w w' := by
  obtain ⟨pa, ca, rfl, -⟩ := id ha.dd.ex
  have hcomb := fun wx vb (hw : Below w.heap.size w wx) (hb : DV wx vb (.c true)) => combine_any 41 (fun p q => !p && q) hcf41 not_any _ vb s (.c true) R wx (ha.below hw) hb oR fun a => by rw [hR]; simp [T.ev]
  clear ha hR oR
  have Hcomb := Lib.hid hcomb; clear hcomb
  go_enter Try.func16, Try.ntmps16
  go_upto_region 1 with fail
  have hb1 := ((Below.refl w.heap.size w).alloc (Nat.le_refl _) (.cells #[.slice pa (canonN s).length ca, .int .i64 (canonR s)] 24)).alloc (by simp) (.cells #[.slice none 0 0, .int .i64 0] 24)
  have hn0 := heap_alloc_new w (.cells #[.slice pa (canonN s).length ca, .int .i64 (canonR s)] 24)
  have hs0 : (w.alloc (.cells #[.slice pa (canonN s).length ca, .int .i64 (canonR s)] 24)).heap.size = w.heap.size + 1 := by simp
  generalize w.alloc (.cells #[.slice pa (canonN s).length ca, .int .i64 (canonR s)] 24) = w1 at *
  have hn1 := heap_alloc_new w1 (.cells #[.slice none 0 0, .int .i64 0] 24)
  have hb12 := (Below.refl w1.heap.size w1).alloc (Nat.le_refl _) (.cells #[.slice none 0 0, .int .i64 0] 24)
  generalize w1.alloc (.cells #[.slice none 0 0, .int .i64 0] 24) = w2 at *
  rw [hs0] at hn1 hb12
  have hn02 := (hb12.block _ (by omega)).trans hn0
  have Hb1 := Lib.hid (show Below w.heap.size w w2.drew from hb1.drew)
  have Hn1 := Lib.hid (show w2.drew.heap[w.heap.size + 1]? = _ from hn1)
  have Hn0 := Lib.hid (show w2.drew.heap[w.heap.size]? = _ from hn02)
  obtain ⟨a0, a1, -⟩ := cells2 hn02
  have y0 := Lib.hid (show w2.drew.cell? ⟨w.heap.size, 0, none⟩ = _ from a0)
  clear hb1 hn1 hn0 hs0 hb12 hn02
  have hT := true_any w2.drew
  go_wp2_with (first
    | ((with_reducible refine Lex.at_finK ?_); refine LexK.finE_on (by kernel_rfl) (by repeat first | exact LexK.finL_nil | refine LexK.finL_none rfl ?_ | refine LexK.finL_skip (by decide +kernel) ?_ | refine LexK.finL_take rfl rfl y0.out ?_) ?_)
    | ((with_reducible refine Lex.at_region ?_); refine LexK.wp_region_lexE (fun x => x = w.heap.size) (by kernel_rfl) (by decide +kernel) ?_)
    | ((with_reducible refine Lex.at_wpX ?_); with_reducible refine LexK.wpX_plain (by decide +kernel) ?_)
    | ((with_reducible refine Lex.at_wpX ?_); with_reducible refine LexK.wpX_call ?_)
    | ((with_reducible refine Lex.at_wpX ?_); with_reducible refine LexK.wpX_nil ?_)
    | ((with_reducible refine Lex.at_ext ?_); with_reducible refine LexK.ext_on Hext.out ?_)
    | (go_at_call 28; refine hT.mono ?_; rintro e w3 ⟨tv, rfl, htv, hb3⟩; have Htv := Lib.hid htv; have Hb3 := Lib.hid hb3; have Hext := Lib.hid (LexK.Ext.of_below (Kp := fun x => x = w.heap.size) hb3 (Nat.le_refl _)); clear htv hb3)
    | (go_at_call 38; refine (Hcomb.out _ _ (Hb1.out.step Hb3.out) Htv.out).mono ?_; rintro e w4 ⟨dv, rfl, hdv, hb4⟩; obtain ⟨p4, c4, rfl, -⟩ := id hdv.dd.ex; have Hdv := Lib.hid hdv; have Hext := Lib.hid (LexK.Ext.of_below (Kp := fun x => x = w.heap.size) hb4 (Nat.le_refl _)); have Hn4 := Lib.hid (((Hb3.out.step hb4).block _ (heap_lt Hn1.out)).trans Hn1.out); have Hb4 := Lib.hid (Hb1.out.step (Hb3.out.step hb4)); clear hdv hb4)
    | (with_reducible refine wpList_store_row rfl 24 (.tmp 2) (.tmp 5) rfl _ _ rfl rfl _ _ Hn4.out (by kernel_rfl) (by kernel_rfl) (by kernel_rfl) ?_))
  refine bodyPost_ret (results_cell_row rfl _ _ (w.heap.size + 1) 24 _ (0, 0) _ rfl (setRow_heap _ _ _ _ _ _ Hn4.out) rfl rfl (by kernel_rfl)) rfl ?_
  exact ⟨_, rfl, Hdv.out.setRow Hn4.out, below_setRow Hb4.out (by omega)⟩
end Go.Proofs.Ytkppcibffbnhoaa
