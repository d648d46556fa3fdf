/-
  Walks: the reference's reduce and OfTable.
-/
import Derived.Test.YtkppcibffbnhoaaF4
namespace Go.Proofs.Ytkppcibffbnhoaa
open Go.RowKit
set_option maxRecDepth 100000

theorem reduce_any (Z d bt : Nat) (f : Nat → Bool) : ∀ (j : Nat), j ≤ 12 → ∀ (l m : Nat), l + j = 12 → m < 2 ^ l → ∀ (L : List T) (v : Value) (w : World), RI Z d bt f L v w → L.length + 2 ^ j ≤ 8192 →
    Calls Try.prog 53 #[.pointer (some ⟨d, 0, none⟩), .slice (some ⟨bt, 0, none⟩) 4096 4096, .int .i64 l, .int .i64 m] w (RR Z d bt f (tb f j m) L v w) := by
  intro j
  induction j with
  | zero =>
    intro _ l m hl hm L v w h _
    obtain rfl : l = 12 := by omega
    exact reduce_leaf Z d bt f m (by simpa using hm) L v w h
  | succ j ih =>
    intro hj l m hl hm L v w h hlen
    have el : 11 - j = l := by omega
    have e : tb f (j + 1) m = mk l (tb f j (m + 2 ^ l)) (tb f j m) := by simp only [tb]; rw [el]
    obtain ⟨o1, l1⟩ := tb_ok f j (by omega) (m + 2 ^ l)
    obtain ⟨o2, l2⟩ := tb_ok f j (by omega) m
    have s1 := tb_sz f j (m + 2 ^ l)
    have s2 := tb_sz f j m
    have v1 := fun L => vis_len (tb f j (m + 2 ^ l)) L
    have v2 := fun L => vis_len (tb f j m) L
    have hp : 2 ^ (j + 1) = 2 ^ j + 2 ^ j := by rw [Nat.pow_succ]; omega
    have hpl : 2 ^ (l + 1) = 2 ^ l + 2 ^ l := by rw [Nat.pow_succ]; omega
    rw [e]
    have hc : ((l : Int) + 1) = ((l + 1 : Nat) : Int) := by simp
    refine reduce_step Z d bt f l m (by omega) hm _ _ L v w h o1 o2 (by omega) (by omega) ?_ ?_ ?_
    · have a := v1 L
      have b := v2 (vis (tb f j (m + 2 ^ l)) L)
      omega
    · rw [hc]
      exact ih (by omega) (l + 1) (m + 2 ^ l) (by omega) (by omega) L v w h (by omega)
    · intro v' w' h'
      rw [hc]
      exact ih (by omega) (l + 1) m (by omega) (by omega) _ v' w' h' (by have := v1 L; omega)
/-- The tree of a table, whatever it is called. -/
theorem table_tree (Z d bt : Nat) (f : Nat → Bool) : ∃ t : T, t.Ok ∧ (∀ M, M < 4096 → t.ev (bitsF M) = f M) ∧ ∀ (v : Value) (w : World), RI Z d bt f [] v w → Calls Try.prog 53 #[.pointer (some ⟨d, 0, none⟩), .slice (some ⟨bt, 0, none⟩) 4096 4096, .int .i64 0, .int .i64 0] w (RR Z d bt f t [] v w) := by
  have h : ∀ j, j = 12 → ∃ t : T, t.Ok ∧ (∀ M, M < 4096 → t.ev (bitsF M) = f M) ∧ ∀ (v : Value) (w : World), RI Z d bt f [] v w → Calls Try.prog 53 #[.pointer (some ⟨d, 0, none⟩), .slice (some ⟨bt, 0, none⟩) 4096 4096, .int .i64 0, .int .i64 0] w (RR Z d bt f t [] v w) := fun j hj => by
    have hp : 2 ^ j = 4096 := by rw [hj]
    refine ⟨tb f j 0, tb_ok1 f j (by omega) 0, fun M hM => ?_, fun v w h => reduce_any Z d bt f j (by omega) 0 0 (by omega) (by simp) [] v w h (by rw [hp]; simp)⟩
    have := tb_ev f M hM j (by omega)
    rw [show 12 - j = 0 by omega, show M % 2 ^ 0 = 0 from Nat.mod_one _] at this
    exact this
  exact h 12 rfl

set_option maxHeartbeats 4000000 in
theorem oftable_any (bt : Nat) (f : Nat → Bool) (w : World) (h : TB w bt f) : ∃ t : T, t.Ok ∧ (∀ M, M < 4096 → t.ev (bitsF M) = f M) ∧
    Calls Try.prog 37 #[.slice (some ⟨bt, 0, none⟩) 4096 4096] w fun e w' => ∃ v, e = .returned v ∧ DV w' v t ∧ Below w.heap.size w w' := by
  obtain ⟨t, ot, ht, hr⟩ := table_tree w.heap.size (w.heap.size + 1) bt f
  refine ⟨t, ot, ht, ?_⟩
  have hA1 := (Below.refl w.heap.size w).alloc (Nat.le_refl _) (.cells #[.slice none 0 0, .int .i64 0] 24)
  have hn1 := heap_alloc_new w (.cells #[.slice none 0 0, .int .i64 0] 24)
  have hs1 : (w.alloc (.cells #[.slice none 0 0, .int .i64 0] 24)).heap.size = w.heap.size + 1 := by simp
  have HT := Lib.hid h; clear h ht
  have Hr := Lib.hid hr; clear hr
  have Hot := Lib.hid ot; clear ot
  go_enter Try.func37, Try.ntmps37
  go_upto_region 2 with fail
  generalize w.alloc (.cells #[.slice none 0 0, .int .i64 0] 24) = w1 at *
  have hA2 := (Below.refl w1.heap.size w1).alloc (Nat.le_refl _) (.cells #[.slice none 0 0, .int .i64 0] 24)
  have hn2 := heap_alloc_new w1 (.cells #[.slice none 0 0, .int .i64 0] 24)
  generalize w1.alloc (.cells #[.slice none 0 0, .int .i64 0] 24) = w2 at *
  have hb02 := hA1.trans (hA2.mono (by omega))
  obtain ⟨tc, ht1, ht2⟩ := HT.out.ex
  rw [hs1] at hn2
  have hI : RI w.heap.size (w.heap.size + 1) bt f [] (.slice none 0 0) w2 := ⟨hn2, World.ownsRow_nil _ _ _ _, HT.out.at (hb02.block _ (heap_lt ht1)), Wf.nil, by omega, hb02.size⟩
  have hn12 := (hA2.block _ (heap_lt hn1)).trans hn1
  have Hn12 := Lib.hid hn12; have HI := Lib.hid hI; have Hb02 := Lib.hid hb02; have Hn2 := Lib.hid hn2
  clear hn12 hI hb02 hn2 hn1 hA1 hA2 ht1 ht2 hs1
  go_upto_region 3 with (go_at_call 53; refine (Hr.out _ _ HI.out).mono ?_; rintro e w3 ⟨v3, rfl, hI3, hf3⟩; have HI3 := Lib.hid hI3; have Hf3 := Lib.hid hf3; clear hI3 hf3; obtain ⟨d0, d1, dz⟩ := cells2 HI3.out.blk)
  have hv : vis t [] = canonL t := rfl
  rw [hv] at HI3
  have hr0 : ref (vis t []) t = canonR t := rfl
  rw [hr0]
  clear hv hr0
  generalize hcr : canonR t = r at *
  have hU := Upd.cast (o' := .cells #[v3, .int .i64 r] 24) (Upd.set (i := 1) (v := .int .i64 r) (Upd.refl HI3.out.blk)) (by simp)
  have hb4 := hU.blk
  have ho4 := ownsRow_at HI3.out.own fun g hg => hU.other g fun e => own_ne HI3.out.own HI3.out.blk (by decide) (by rw [hg, e])
  have hn13 := (Hf3.out.block _ (heap_lt Hn12.out) (by simp) (by simp [Value.ownBlock])).trans Hn12.out
  have hn14 := (hU.other _ (by omega)).trans hn13
  have hf4 : Fr [w.heap.size + 1] (.slice none 0 0) v3 w2 (w3.setCell ⟨w.heap.size + 1, 1, none⟩ (.int .i64 r)) := Hf3.out.trans (Fr.of_upd hU (by simp))
  have hb04 : Below w.heap.size w (w3.setCell ⟨w.heap.size + 1, 1, none⟩ (.int .i64 r)) := Hb02.out.trans (hf4.below Hb02.out.size (by simp) (by simp [Value.ownBlock]))
  generalize w3.setCell ⟨w.heap.size + 1, 1, none⟩ (.int .i64 r) = w4 at *
  clear hU hf4 d0 d1 dz hn13
  obtain ⟨p3, c3, rfl⟩ := own_slice ho4
  obtain ⟨d0, d1, -⟩ := cells2 hb4
  have Ho4 := Lib.hid ho4; have Hb04 := Lib.hid hb04; have Hn14 := Lib.hid hn14; have Hcr := Lib.hid hcr
  clear ho4 hb04 hb4 hcr HI3 Hf3 HI Hn12 Hn2 hn14
  go_wp2_with (first
    | (with_reducible refine wpList_store_row rfl 24 (.tmp 2) (.tmp 8) rfl _ _ rfl rfl _ _ Hn14.out (by kernel_rfl) (by kernel_rfl) (by kernel_rfl) ?_))
  refine bodyPost_ret (results_cell_row rfl _ _ w.heap.size 24 _ (0, 0) _ rfl (setRow_heap _ _ _ _ _ _ Hn14.out) rfl rfl (by kernel_rfl)) rfl ?_
  refine ⟨_, rfl, ⟨Hot.out, ⟨p3, c3, by rw [Hcr.out]; rfl, ?_⟩⟩, below_setRow Hb04.out (Nat.le_refl _)⟩
  refine NS.setRow (NS.of_own (B := w.heap.size) (cap := c3) Ho4.out) Hn14.out
end Go.Proofs.Ytkppcibffbnhoaa
