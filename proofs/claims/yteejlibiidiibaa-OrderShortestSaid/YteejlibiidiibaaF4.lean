/-
  Walks: visit: what it keeps.
-/
import Derived.Test.YteejlibiidiibaaF3
namespace Go.Proofs.Yteejlibiidiibaa
open Go.RowKit
set_option maxRecDepth 100000
/-- Bounds of the lengths. -/
structure TB (E : Gr) (s : TS) : Prop where
  a : s.gr.length + s.op.length ≤ s.cnt
  b : s.cnt + cnt E.length (fun k => decide (s.num k = 0)) ≤ E.length
theorem TB.begin' {E : Gr} {s : TS} (h : TB E s) {j : Nat} (hj : j < E.length) (h0 : s.num j = 0) : TB E (s.begin' j) := by
  have h1 := h.a
  have h2 := h.b
  refine ⟨by simp [TS.begin']; omega, ?_⟩
  have h3 : cnt E.length (fun k => decide ((s.begin' j).num k = 0)) < cnt E.length (fun k => decide (s.num k = 0)) := by
    refine cnt_lt (fun k _ hk => ?_) ⟨j, hj, ?_, by simpa using h0⟩
    · simp only [decide_eq_true_eq] at hk ⊢
      by_cases e : k = j
      · subst e; exact h0
      · rw [← hk]; exact (upN_ne e).symm
    · have : (s.begin' j).num j = s.cnt + 1 := upN_at _ _ _
      simp [this]
  show s.cnt + 1 + _ ≤ _
  omega
theorem TB.close {E : Gr} {s : TS} (h : TB E s) {k : Nat} (hk : k < s.op.length) (G : List Int) : TB E (s.close k G) := by
  have h1 := h.a
  refine ⟨by simp [TS.close]; omega, h.b⟩
theorem TB.lower {E : Gr} {s : TS} (h : TB E s) (i x : Nat) : TB E (s.lower i x) := ⟨h.a, h.b⟩
theorem TB.start (E : Gr) : TB E TS.init := ⟨by simp [TS.init], by have := cnt_le E.length (fun k => decide (TS.init.num k = 0)); show 0 + _ ≤ _; omega⟩
theorem KP.then_new {c : FP} {w w1 w2 : World} {g : Nat} (h : KP c w w1) (hg : w.heap.size ≤ g) (hH : c.H ≤ g) (ht : Tch g w1 w2) : KP c w w2 := by
  obtain ⟨o, hu⟩ := ht
  exact ⟨h.below.trans (hu.below hH), fun k arr t hk h1 h2 h3 => (hu.other k (by have := heap_lt hk; omega)).trans (h.keep k arr t hk h1 h2 h3)⟩
theorem KP.then_fr {c : FP} {w w1 w2 : World} {v v' : Value} (h : KP c w w1) (hf : Fr [] v v' w1 w2) (hv : ∀ g, v.ownBlock = some g → w.heap.size ≤ g) (hH : c.H ≤ w.heap.size) : KP c w w2 := by
  have hs := h.below.size
  refine ⟨h.below.trans (hf.below (by omega) (by simp) fun g hg => by have := hv g hg; omega), fun k arr t hk h1 h2 h3 => ?_⟩
  have hlt := heap_lt hk
  exact (hf.block k (by omega) (by simp) fun e => by have := hv k e; omega).trans (h.keep k arr t hk h1 h2 h3)
theorem KP.then_below {c : FP} {w w1 w2 : World} (h : KP c w w1) (hb : Below w1.heap.size w1 w2) (hH : c.H ≤ w1.heap.size) : KP c w w2 := h.trans (KP.of_below hb hH)
/-- The cells of the steps. -/
def stc (W : Wk) : List Value := W.flatMap fun x => [.int .i64 x.1, .int .i64 x.2]
theorem stc_len (W : Wk) : (stc W).length = W.length * 2 := by
  induction W with
  | nil => rfl
  | cons x W ih => simp [stc] at ih ⊢; omega
theorem stc_snoc (W : Wk) (x : Nat × Nat) : stc (W ++ [x]) = stc W ++ [.int .i64 x.1, .int .i64 x.2] := by simp [stc]
/-- What visit keeps in the heap: h is the block of the finder's pointer, h + 1 that of the count's. -/
structure VM (c : FP) (h : Nat) (s : TS) (W : Wk) (ov gv wv : Value) (w : World) : Prop where
  fm : FM c s ov gv w
  vb : w.heap[h]? = some (.cells #[.pointer (some ⟨c.fb, 0, none⟩)] 55)
  vc : w.heap[h + 1]? = some (.cells #[.pointer (some ⟨c.cb, 0, none⟩)] 59)
  row : w.ownsRow (h + 2) 70 2 wv W.length (stc W)
theorem VM.step {c : FP} {h : Nat} {s s' : TS} {W : Wk} {ov gv wv ov' gv' : Value} {w w' : World} (H : VM c h s W ov gv wv w) (hf : FM c s' ov' gv' w') (hk : KP c w w') (hh : c.B ≤ h) : VM c h s' W ov' gv' wv w' := by
  have hB := H.fm.ok.rfb.2
  refine ⟨hf, (hk.keep _ _ _ H.vb (by omega) (by decide) (by decide)).trans H.vb, (hk.keep _ _ _ H.vc (by omega) (by decide) (by decide)).trans H.vc, ownsRow_at H.row fun g hg => ?_⟩
  obtain ⟨h1, tc, h2⟩ := own_ty H.row hg
  exact hk.keep _ _ _ h2 (by omega) (by decide) (by decide)
theorem VM.top {c : FP} {h : Nat} {s : TS} {W : Wk} {i d : Nat} {ov gv wv : Value} {w : World} (H : VM c h s (W ++ [(i, d)]) ov gv wv w) : ∃ g cap, wv = .slice (some ⟨g, 0, none⟩) (W.length + 1) cap ∧ W.length + 1 ≤ cap ∧ h + 2 ≤ g ∧ w.cell? ⟨g, W.length * 2, none⟩ = some (.int .i64 i) ∧ w.cell? ⟨g, W.length * 2 + 1, none⟩ = some (.int .i64 d) ∧ (∀ j, w.frozen? ⟨g, j, none⟩ = false) := by
  have hr := H.row
  rw [List.length_append, List.length_singleton] at hr
  obtain ⟨p, cap, rfl⟩ := own_slice hr
  obtain ⟨g, rfl⟩ := own_ptr hr (by omega)
  obtain ⟨a, o, he, _, hz⟩ := (RC.of_own hr).2 (by omega)
  injection he with he; injection he with h1 h2; subst h1 h2
  have hl : (stc W).length = W.length * 2 := stc_len W
  refine ⟨g, cap, rfl, own_cap hr, (hr.lt g rfl).1, ?_, ?_, fun j => hr.frozenAt j⟩
  · have := hz (W.length * 2) (.int .i64 i) (by rw [stc_snoc, List.getElem?_append_right (by omega), hl]; simp)
    simpa using this
  · have := hz (W.length * 2 + 1) (.int .i64 d) (by rw [stc_snoc, List.getElem?_append_right (by omega), hl]; simp)
    simpa using this
/-- The next edge's number is written. -/
theorem VM.setNext {c : FP} {h : Nat} {s : TS} {W : Wk} {i d g cap : Nat} {ov gv : Value} {w : World} (H : VM c h s (W ++ [(i, d)]) ov gv (.slice (some ⟨g, 0, none⟩) (W.length + 1) cap) w) (hh : c.B ≤ h) (d' : Nat) {y : Int} (hy : y = (d' : Int)) :
    VM c h s (W ++ [(i, d')]) ov gv (.slice (some ⟨g, 0, none⟩) (W.length + 1) cap) (w.setCell ⟨g, W.length * 2 + 1, none⟩ (.int .i64 y)) ∧ Tch g w (w.setCell ⟨g, W.length * 2 + 1, none⟩ (.int .i64 y)) := by
  subst hy
  have hr := H.row
  have hg := (hr.lt g rfl).1
  obtain ⟨_, tc, htc⟩ := own_ty hr (g := g) rfl
  have hB := H.fm.ok.rfb
  have hl := hr.1
  have hsl : (stc W).length = W.length * 2 := stc_len W
  rcases hr.2 with ⟨h1, _⟩ | ⟨g', cap', cur, h1, h2, h3, h4, h5, h6, h7⟩
  · cases h1
  · injection h1 with q1 q2 q3
    injection q1 with q1; injection q1 with q1
    subst q1 q3
    have hU := Upd.set (i := W.length * 2 + 1) (v := .int .i64 (d' : Nat)) (Upd.refl h3)
    refine ⟨⟨H.fm.far h3 (by decide) (by decide) (by decide) ⟨_, hU⟩, (hU.other _ (by omega)).trans H.vb, (hU.other _ (by omega)).trans H.vc, ?_⟩, ⟨_, hU⟩⟩
    · refine ⟨by rw [stc_len], .inr ⟨g, cap, _, by simp, h2, hU.blk, by simpa using h4, h5, by simpa using h6, ?_⟩⟩
      rw [Array.toList_setIfInBounds, List.take_set]
      have h7' : cur.toList.take ((W ++ [(i, d')]).length * 2) = stc (W ++ [(i, d)]) := by rw [← h7]; simp
      rw [h7', stc_snoc, stc_snoc, List.set_append_right _ _ (by omega), hsl]
      simp
theorem FM.of_keep {c : FP} {s : TS} {ov gv : Value} {w w' : World} (h : FM c s ov gv w) (hs : w.heap.size ≤ w'.heap.size) (e : ∀ (k : Nat) (arr : Array Value) (t' : TypeId), w.heap[k]? = some (.cells arr t') → t' = 3 ∨ t' = 22 ∨ t' = 57 → w'.heap[k]? = w.heap[k]?) : FM c s ov gv w' := by
  refine ⟨h.ok, Nat.le_trans h.sz hs, (e _ _ _ h.blk (by simp)).trans h.blk, ?_, ?_, ?_, (e _ _ _ h.cnt (by simp)).trans h.cnt, ownsRow_at h.own fun g hg => ?_, ?_⟩
  · obtain ⟨tc, h4⟩ := h.num.ty; exact h.num.at (e _ _ _ h4 (by simp))
  · obtain ⟨tc, h4⟩ := h.low.ty; exact h.low.at (e _ _ _ h4 (by simp))
  · obtain ⟨tc, h4⟩ := h.of.ty; exact h.of.at (e _ _ _ h4 (by simp))
  · obtain ⟨_, tc, h4⟩ := own_ty h.own hg; exact e _ _ _ h4 (by simp)
  · obtain ⟨gs, g1, g2⟩ := h.grp
    refine ⟨gs, ownsRow_at g1 fun g hg => ?_, fun g G hg => ?_⟩
    · obtain ⟨_, tc, h4⟩ := own_ty g1 hg; exact e _ _ _ h4 (by simp)
    · obtain ⟨a, o, cc, arr, q1, q2, q3, q4, q5, q6⟩ := g2 g G hg
      exact ⟨a, o, cc, arr, q1, q2, q3, q4, (e _ _ _ q5 (by simp)).trans q5, q6⟩
theorem VM.drew {c : FP} {h : Nat} {s : TS} {W : Wk} {ov gv wv : Value} {w : World} (H : VM c h s W ov gv wv w) : VM c h s W ov gv wv w.drew := ⟨H.fm.drew, H.vb, H.vc, ownsRow_at H.row fun _ _ => rfl⟩
/-- A step is put to the steps. -/
theorem VM.push {c : FP} {h : Nat} {s : TS} {W : Wk} {ov gv wv wv' : Value} {w w1 w2 : World} {j : Nat} (H : VM c h s W ov gv wv w) (hh : c.B ≤ h) (h1 : w1 = w.alloc (.cells #[.int .i64 j, .int .i64 0] 70)) (h2 : Fr [] wv wv' w1 w2) (h3 : w2.ownsRow (h + 2) 70 2 wv' (W.length + 1) (stc W ++ [.int .i64 j, .int .i64 0])) :
    VM c h s (W ++ [(j, 0)]) ov gv wv' w2 := by
  have hb1 : Below w.heap.size w w1 := h1 ▸ (Below.refl _ _).alloc (Nat.le_refl _) _
  have e : ∀ (k : Nat) (arr : Array Value) (t' : TypeId), w.heap[k]? = some (.cells arr t') → t' ≠ 70 → w2.heap[k]? = w.heap[k]? := fun k arr t' hk ht => by
    have hk1 := (hb1.block k (heap_lt hk)).trans hk
    refine (h2.block k (heap_lt hk1) (by simp) fun e => ?_).trans (hb1.block k (heap_lt hk))
    obtain ⟨_, tc, h4⟩ := own_ty H.row e
    rw [hk] at h4; cases h4; exact ht rfl
  refine ⟨H.fm.of_keep (Nat.le_trans hb1.size h2.size) fun k arr t' hk ht => e k arr t' hk (by rcases ht with rfl | rfl | rfl <;> decide), (e _ _ _ H.vb (by decide)).trans H.vb, (e _ _ _ H.vc (by decide)).trans H.vc, ?_⟩
  rw [List.length_append, List.length_singleton, stc_snoc]
  exact h3
/-- The last step is struck. -/
theorem VM.pop {c : FP} {h : Nat} {s : TS} {W : Wk} {x : Nat × Nat} {g cap : Nat} {ov gv : Value} {w : World} (H : VM c h s (W ++ [x]) ov gv (.slice (some ⟨g, 0, none⟩) (W.length + 1) cap) w) : VM c h s W ov gv (.slice (some ⟨g, 0, none⟩) W.length cap) w := by
  refine ⟨H.fm, H.vb, H.vc, ?_⟩
  refine ⟨stc_len W, ?_⟩
  have hr := H.row
  rcases hr.2 with ⟨h1, _⟩ | ⟨g', cap', cur, h1, h2, h3, h4, h5, h6, h7⟩
  · cases h1
  · injection h1 with q1 q2 q3
    injection q1 with q1; injection q1 with q1
    subst q1 q3
    simp only [List.length_append, List.length_singleton] at h4 h7
    refine .inr ⟨g, cap, cur, rfl, h2, h3, by omega, h5, h6, ?_⟩
    have h8 : cur.toList.take (W.length * 2) = (cur.toList.take ((W.length + 1) * 2)).take (W.length * 2) := by rw [List.take_take]; congr 1; omega
    rw [h8, h7, stc_snoc, List.take_left' (stc_len W)]
theorem VM.ready {c : FP} {h : Nat} {s : TS} {W : Wk} {ov gv wv : Value} {w : World} (H : VM c h s W ov gv wv w) (j : Nat) : h + 2 ≤ (w.alloc (.cells #[.int .i64 j, .int .i64 0] 70)).heap.size ∧ (w.alloc (.cells #[.int .i64 j, .int .i64 0] 70)).ownsRow (h + 2) 70 2 wv W.length (stc W) ∧ RC (w.alloc (.cells #[.int .i64 j, .int .i64 0] 70)) 2 (some ⟨w.heap.size, 0, none⟩) 1 [.int .i64 j, .int .i64 0] := by
  have b6 : Below w.heap.size w (w.alloc (.cells #[.int .i64 j, .int .i64 0] 70)) := (Below.refl _ _).alloc (Nat.le_refl _) _
  have n6 := heap_alloc_new w (.cells #[.int .i64 j, .int .i64 0] 70)
  have := heap_lt H.vc
  exact ⟨by have := b6.size; omega, ownsRow_below H.row b6 (Nat.le_refl _), RC.row rfl n6 (fun j u hu => by simpa using hu)⟩
theorem step_info : (Try.prog.info? 70).map (fun i => (i.zero, i.size, i.bytes)) = some (some (.agg #[.int .i64 0, .int .i64 0]), 2, 16) := by kernel_rfl
end Go.Proofs.Yteejlibiidiibaa
