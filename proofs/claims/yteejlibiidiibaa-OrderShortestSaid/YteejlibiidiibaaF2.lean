/-
  Walks: a component is closed: the parts.
-/
import Derived.Test.YteejlibiidiibaaF1
import Derived.Test.YteejlibiidiibaaShp
import Derived.Lib.OwnBridge
namespace Go.Proofs.Yteejlibiidiibaa
open Go.RowKit
set_option maxRecDepth 100000
def srtI (l : List Int) : List Int := l.mergeSort fun x y => decide (x ≤ y)
theorem srtI_pair (l : List Int) : (srtI l).Pairwise (· ≤ ·) := by
  have := List.pairwise_mergeSort (le := fun x y : Int => decide (x ≤ y)) (fun a b c h k => by simp only [decide_eq_true_eq] at *; omega) (fun a b => by simp only [Bool.or_eq_true, decide_eq_true_eq]; omega) l
  exact this.imp fun h => by simpa using h
theorem srtI_mem (l : List Int) (x : Int) : x ∈ srtI l ↔ x ∈ l := (List.mergeSort_perm l _).mem_iff
theorem srtI_len (l : List Int) : (srtI l).length = l.length := (List.mergeSort_perm l _).length_eq
theorem sorti_any (B : Nat) (v : Value) (xs : List Int) (hl : xs.length ≤ 1000000) (w : World) (hO : w.ownsRow B 3 1 v xs.length (ic xs)) :
    Calls Try.prog 44 #[v] w fun e w' => e = .returned (.tuple #[]) ∧ w'.ownsRow B 3 1 v (srtI xs).length (ic (srtI xs)) ∧ Below B w w' := by
  by_cases hn : xs = []
  · subst hn
    obtain ⟨p, cap, rfl⟩ := own_slice hO
    refine (Try.slices_Sort_int_none p cap w).mono ?_
    rintro e w1 ⟨rfl, hw⟩
    rw [hw]
    exact ⟨rfl, by simpa [srtI] using hO, Below.refl _ _⟩
  · have hv : v ≠ .slice none 0 0 := by
      rintro rfl
      rcases hO.2 with ⟨_, h2⟩ | ⟨g, cap, cur, h1, _⟩
      · exact hn (List.length_eq_zero_iff.1 h2)
      · cases h1
    have hO' : w.ownsRow B 3 1 v xs.length (xs.map (Value.int .i64)) := hO
    obtain ⟨g, cap, rfl, hb, hg, hnc, hm, hlen, hH⟩ := Lib.holds_of_ownsRow hO' hv
    refine (Try.slices_Sort_int g 0 cap xs w hH hg (by omega)).mono ?_
    rintro e w1 ⟨rfl, n, os, rfl⟩
    have hlen2 := srtI_len xs
    have h1 := Lib.ownsRow_putRow (q := n) (ys := srtI xs) (k := xs.length) hO' hlen2 (Nat.le_refl _)
    have h2 : Below B w (Sort.putRow (Value.int .i64) (Sort.ahead w n) g 0 (srtI xs).toArray) := Lib.below_putRow (Below.refl _ _) hb
    rw [List.take_of_length_le (by omega)] at h1
    have h3 : (Sort.putRow (Value.int .i64) (Sort.ahead w n) g 0 (srtI xs).toArray).ownsRow B 3 1 (.slice (some ⟨g, 0, none⟩) xs.length cap) (srtI xs).length (ic (srtI xs)) := by rw [hlen2]; exact h1
    have h4 : ∀ W : World, Below W.heap.size W (Sort.grow W os) := fun W => ⟨rfl, rfl, rfl, by simp [Sort.grow], fun k hk => by simp [Sort.grow, Array.getElem?_append, hk]⟩
    exact ⟨rfl, ownsRow_below h3 (h4 _) (Nat.le_refl _), h2.trans ((h4 _).mono (by simp [Sort.ahead]; omega))⟩
theorem index_any (p : Option Addr) (c : Nat) (xs : List Int) (k : Nat) (x : Int) (w : World) (h : RC w 1 p xs.length (ic xs)) (hk : xs[k]? = some x) (hne : ∀ j, j < k → xs.getD j 0 ≠ x) (hl : xs.length ≤ 1000000) :
    Calls Try.prog 38 #[.slice p xs.length c, .int .i64 x] w fun e w' => e = .returned (.int .i64 (k : Nat)) ∧ w = w' := by
  have hkl : k < xs.length := by
    rcases Nat.lt_or_ge k xs.length with h' | h'
    · exact h'
    · rw [List.getElem?_eq_none h'] at hk; cases hk
  obtain ⟨a, o, rfl, _, hz⟩ := h.2 (by omega)
  refine (Try.slices_Index_int a o xs.length c xs x w (Nat.le_refl _) (by omega) (fun j hj => hz j _ (by simp [ic, hj]))).mono ?_
  rintro e w' ⟨rfl, rfl⟩
  refine ⟨?_, rfl⟩
  rw [Lib.idxOf_hit xs xs.length k x hkl (Nat.le_refl _) (by simp [hk]) hne]
theorem clone_any (p : Option Addr) (c : Nat) (xs : List Int) (w : World) (h : RC w 1 p xs.length (ic xs)) (hn : 0 < xs.length) (hl : xs.length ≤ 1000000) :
    Calls Try.prog 43 #[.slice p xs.length c] w fun e w' => ∃ v', e = .returned v' ∧ w'.ownsRow w.heap.size 3 1 v' xs.length (ic xs) ∧ Below w.heap.size w w' := by
  obtain ⟨a, o, rfl, _, hz⟩ := h.2 (by omega)
  refine (Try.slices_Clone_int a o xs.length c xs w (Nat.le_refl _) (by omega) (fun j hj => hz j _ (by simp [ic, hj]))).mono ?_
  rintro e w' ⟨v', rfl, h1, _, h2⟩
  rw [List.take_length] at h1
  exact ⟨v', rfl, h1, h2⟩
/-- The stack of open nodes is cut. -/
theorem FM.cut {c : FP} {s : TS} {ov ov' gv : Value} {w w3 : World} (h : FM c s ov gv w) (k : Nat) (ho : w.ownsRow c.B 3 1 ov' (s.op.take k).length (ic (s.op.take k))) (hb : ∀ g, ov'.ownBlock = some g → ov.ownBlock = some g)
    (hk : ∀ b, b < w.heap.size → b ≠ c.fb → w3.heap[b]? = w.heap[b]?) (hsz : w.heap.size ≤ w3.heap.size)
    (hfb : w3.heap[c.fb]? = some (.cells #[.slice c.p c.n c.cp, .slice (some ⟨c.nb, 0, none⟩) c.n c.n, .slice (some ⟨c.lb, 0, none⟩) c.n c.n, .slice (some ⟨c.ob, 0, none⟩) c.n c.n, ov', gv] 57)) :
    FM c { s with op := s.op.take k } ov' gv w3 := by
  have hB : ∀ b, c.B ≤ b → b ≠ c.fb := fun b hb => by have := h.ok.rfb.2; omega
  refine ⟨h.ok, Nat.le_trans h.sz hsz, hfb, h.num.at (hk _ h.num.lt (Ne.symm h.ok.d1.1)), h.low.at (hk _ h.low.lt (Ne.symm h.ok.d1.2.1)), h.of.at (hk _ h.of.lt (Ne.symm h.ok.d1.2.2.1)), (hk _ (heap_lt h.cnt) (Ne.symm h.ok.d1.2.2.2)).trans h.cnt, ownsRow_at ho fun g hg => hk _ (ho.lt g hg).2 (hB g (ho.lt g hg).1), ?_⟩
  exact h.grp.move (fun b arr t hb2 hB2 _ => hk b (heap_lt hb2) (hB b hB2)) fun a _ hne e => hne (hb a e)
theorem own_take {w : World} {B n cap : Nat} {e : TypeId} {p : Option Addr} {xs : List Int} (h : w.ownsRow B e 1 (.slice p n cap) n (ic xs)) (hn : 0 < n) {k : Nat} (hk : k ≤ n) : w.ownsRow B e 1 (.slice p k cap) (xs.take k).length (ic (xs.take k)) := by
  have hl := h.1
  rw [ic_len, Nat.mul_one] at hl
  have hk' : (xs.take k).length = k := by simp; omega
  refine ⟨by rw [ic_len, Nat.mul_one], ?_⟩
  rw [hk']
  rcases h.2 with ⟨_, h0⟩ | ⟨g, cap', cur, h1, h2, h3, h4, h5, h6, h7⟩
  · omega
  · injection h1 with q1 q2 q3
    subst q3
    refine .inr ⟨g, cap, cur, by rw [q1], h2, h3, by omega, h5, h6, ?_⟩
    rw [Nat.mul_one] at h7 ⊢
    have h8 : cur.toList.take k = (cur.toList.take n).take k := by rw [List.take_take]; congr 1; omega
    rw [h8, h7]
    simp [ic, List.map_take]
theorem RC.drop {w : World} {a o n k : Nat} {xs : List Int} (h : RC w 1 (some ⟨a, o, none⟩) n (ic xs)) (hk : k ≤ n) : RC w 1 (some ⟨a, o + k, none⟩) (xs.drop k).length (ic (xs.drop k)) := by
  have hl := h.1
  rw [ic_len, Nat.mul_one] at hl
  refine ⟨by simp [ic_len], fun hn => ?_⟩
  obtain ⟨a', o', h1, h2, h3⟩ := h.2 (by simp at hn; omega)
  injection h1 with h1; injection h1 with q1 q2
  subst q1 q2
  refine ⟨a, o + k, rfl, h2, fun j u hu => ?_⟩
  rw [Nat.add_assoc]
  refine h3 (k + j) u ?_
  simpa [ic, List.getElem?_drop] using hu
theorem slice_info : (Try.prog.info? 22).map (fun i => (i.zero, i.size, i.bytes)) = some (some (.slice none 0 0), 1, 24) := by kernel_rfl
/-- A group is put to the groups. -/
theorem FM.group {c : FP} {s : TS} {ov gv gv' : Value} {w w1 w3 : World} {a cc : Nat} {G : List Int} {N : Nat} (h : FM c s ov gv w) (hG : w.ownsRow N 3 1 (.slice (some ⟨a, 0, none⟩) G.length cc) G.length (ic G)) (hN : c.B ≤ N) (hov : ∀ g, ov.ownBlock = some g → g < N)
    (h1 : w1 = w.alloc (.cells #[.slice (some ⟨a, 0, none⟩) G.length cc] 22)) (h2 : Fr [] gv gv' w1 w3) (gs0 : List Value) (g01 : w.ownsRow c.B 22 1 gv s.gr.length gs0) (g02 : GC c s.gr gs0 ov w) (hrow : w3.ownsRow c.B 22 1 gv' (s.gr.length + 1) (gs0 ++ [.slice (some ⟨a, 0, none⟩) G.length cc])) :
    FM c { s with gr := s.gr ++ [G] } ov gv' (w3.setCell ⟨c.fb, 5, none⟩ gv') ∧ KP c w (w3.setCell ⟨c.fb, 5, none⟩ gv') ∧ w3.heap[c.fb]? = w.heap[c.fb]? := by
  have hb1 : Below w.heap.size w w1 := h1 ▸ (Below.refl _ _).alloc (Nat.le_refl _) _
  have hs1 : w.heap.size ≤ w1.heap.size := hb1.size
  have F1 := h.grow hb1
  have hH : c.H ≤ w.heap.size := by have := h.ok.rfb.1; have := heap_lt h.blk; omega
  obtain ⟨gs, g1, g2⟩ := F1.grp
  -- what turns is gv's row
  have hkeep : ∀ (k : Nat) (arr : Array Value) (t : TypeId), w1.heap[k]? = some (.cells arr t) → t ≠ 22 → w3.heap[k]? = w1.heap[k]? := fun k arr t hk ht => h2.block k (heap_lt hk) (by simp) fun e => by
    obtain ⟨_, tc, h4⟩ := own_ty g1 e
    rw [hk] at h4; cases h4; exact ht rfl
  have hblk3 := (hkeep _ _ _ F1.blk (by decide)).trans F1.blk
  have hu : Upd c.fb (.cells #[.slice c.p c.n c.cp, .slice (some ⟨c.nb, 0, none⟩) c.n c.n, .slice (some ⟨c.lb, 0, none⟩) c.n c.n, .slice (some ⟨c.ob, 0, none⟩) c.n c.n, ov, gv'] 57) w3 (w3.setCell ⟨c.fb, 5, none⟩ gv') :=
    Upd.cast (Upd.set (i := 5) (v := gv') (Upd.refl hblk3)) (by simp)
  have hB : ∀ b, c.B ≤ b → b ≠ c.fb := fun b hb => by have := h.ok.rfb.2; omega
  refine ⟨⟨h.ok, by rw [hu.size]; exact Nat.le_trans h.sz (Nat.le_trans hs1 h2.size), hu.blk, ?_, ?_, ?_, (hu.other _ (Ne.symm h.ok.d1.2.2.2)).trans ((hkeep _ _ _ F1.cnt (by decide)).trans F1.cnt), ?_, ?_⟩, ?_, hblk3.trans h.blk.symm⟩
  · obtain ⟨tc, h4⟩ := F1.num.ty; exact (F1.num.at (hkeep _ _ _ h4 (by decide))).at (hu.other _ (Ne.symm h.ok.d1.1))
  · obtain ⟨tc, h4⟩ := F1.low.ty; exact (F1.low.at (hkeep _ _ _ h4 (by decide))).at (hu.other _ (Ne.symm h.ok.d1.2.1))
  · obtain ⟨tc, h4⟩ := F1.of.ty; exact (F1.of.at (hkeep _ _ _ h4 (by decide))).at (hu.other _ (Ne.symm h.ok.d1.2.2.1))
  · refine ownsRow_at (ownsRow_at F1.own fun g hg => ?_) fun g hg => hu.other _ (hB g (F1.own.lt g hg).1)
    obtain ⟨_, tc, h4⟩ := own_ty F1.own hg; exact hkeep _ _ _ h4 (by decide)
  · refine ⟨gs0 ++ [.slice (some ⟨a, 0, none⟩) G.length cc], ?_, fun g G' hg => ?_⟩
    · have : (s.gr ++ [G]).length = s.gr.length + 1 := by simp
      rw [this]
      exact ownsRow_at hrow fun g hg => hu.other _ (hB g (hrow.lt g hg).1)
    · have hgl : gs0.length = s.gr.length := by have := g01.1; omega
      rcases Nat.lt_or_ge g s.gr.length with hlt | hge
      · rw [List.getElem?_append_left hlt] at hg
        obtain ⟨a', o, c', arr, q1, q2, q3, q4, q5, q6⟩ := g02 g G' hg
        have q5' := (hb1.block a' (heap_lt q5)).trans q5
        exact ⟨a', o, c', arr, by rw [List.getElem?_append_left (by omega)]; exact q1, q2, q3, q4, (hu.other _ (hB a' q3)).trans ((hkeep _ _ _ q5' (by decide)).trans q5'), q6⟩
      · have hgl2 : g < (s.gr ++ [G]).length := by
          rcases Nat.lt_or_ge g (s.gr ++ [G]).length with h5 | h5
          · exact h5
          · rw [List.getElem?_eq_none h5] at hg; cases hg
        simp at hgl2
        obtain rfl : g = s.gr.length := by omega
        have : G' = G := by simpa using hg.symm
        subst this
        rcases hG.2 with ⟨h4, _⟩ | ⟨g', cap', cur, h4, h5, h6, h7, h8, h9, h10⟩
        · cases h4
        · injection h4 with r1 r2 r3
          injection r1 with r1; injection r1 with r1
          subst r1 r3
          have q5' := (hb1.block a (heap_lt h6)).trans h6
          refine ⟨a, 0, cc, cur, by rw [List.getElem?_append_right (by omega)]; simp [hgl], h7, by omega, fun e => by have := hov a e; omega, (hu.other _ (hB a (by omega))).trans ((hkeep _ _ _ q5' (by decide)).trans q5'), fun j u hj => ?_⟩
          rw [← h10, Nat.mul_one] at hj
          rw [List.getElem?_take] at hj
          split at hj
          · simpa using hj
          · cases hj
  · refine ((KP.of_below hb1 hH).trans (KP.of_fr h2 (by omega) fun g hg => ?_)).trans (KP.of_tch h.ok.rfb.1 ⟨_, hu⟩ (.inl rfl))
    obtain ⟨h4, tc, h5⟩ := own_ty g1 hg
    exact ⟨by have := h.ok.rfb; omega, tc, 22, h5, .inr rfl⟩
end Go.Proofs.Yteejlibiidiibaa
