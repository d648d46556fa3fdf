/-
  Regions that hold calls and make cells: an invariant over the operations that are done.
-/
import Derived.Test.YtejiagmfinhjbaaNn
namespace Go.Proofs.Ytejiagmfinhjbaa
open Go.RowKit Go.Ident Go.Names

/-- Whose operation's a block is. -/
def fu (f : Nat → Nat) (n i : Nat) : Nat → Nat := fun b => if b < n then f b else i
theorem fu_old {f : Nat → Nat} {n i b : Nat} (h : b < n) : fu f n i b = f b := if_pos h
theorem fu_new {f : Nat → Nat} {n i b : Nat} (h : n ≤ b) : fu f n i b = i := if_neg (by omega)
/-- The set that operation i has left. -/
def NR (f : Nat → Nat) (i : Nat) (w : World) (c : Bool) (L : List Nm) (v : Value) : Prop :=
  ∃ p cap, v = .agg #[.bool c, .slice p L.length cap] ∧ SL w p L ∧ ∀ a, p = some a → 0 < L.length → f a.block = i
/-- The cell that operation i has made. -/
def CR (f : Nat → Nat) (B i t : Nat) (w : World) (v : Value) (C : Array Value → Prop) : Prop :=
  ∃ g x y, v = .pointer (some ⟨g, 0, none⟩) ∧ B ≤ g ∧ f g = i ∧ w.heap[g]? = some (.cells #[x, y] t (0, 0)) ∧ C #[x, y]
theorem SL.lt {w : World} {p : Option Addr} {L : List Nm} (h : SL w p L) {a : Addr} (ha : p = some a) (hl : 0 < L.length) : a.block < w.heap.size := by
  obtain ⟨a', o', h3, h4, _⟩ := h.cell 0 hl
  rw [ha] at h3; cases h3; exact h4
theorem heap_lt {w : World} {g : Nat} {o : Obj} (h : w.heap[g]? = some o) : g < w.heap.size := (Array.getElem?_eq_some_iff.1 h).1
theorem NR.grow {f : Nat → Nat} {i j : Nat} {w w' : World} {c : Bool} {L : List Nm} {v : Value} (h : NR f i w c L v) (hb : Below w.heap.size w w') : NR (fu f w.heap.size j) i w' c L v := by
  obtain ⟨p, cap, h1, h2, h3⟩ := h
  exact ⟨p, cap, h1, h2.below hb, fun a ha hl => (fu_old (h2.lt ha hl)).trans (h3 a ha hl)⟩
theorem CR.grow {f : Nat → Nat} {B i j t : Nat} {w w' : World} {v : Value} {C : Array Value → Prop} (h : CR f B i t w v C) (hb : Below w.heap.size w w') : CR (fu f w.heap.size j) B i t w' v C := by
  obtain ⟨g, x, y, h1, h2, h3, h4, h5⟩ := h
  exact ⟨g, x, y, h1, h2, (fu_old (heap_lt h4)).trans h3, (hb.block g (heap_lt h4)).trans h4, h5⟩
theorem NR.new {f : Nat → Nat} {i : Nat} {w w' : World} {c : Bool} {L : List Nm} {v : Value} (h : NA w c L (.returned v) w') : NR (fu f w.heap.size i) i w' c L v := by
  obtain ⟨p, cap, h1, h2, h3, _⟩ := h
  injection h1 with h1
  exact ⟨p, cap, h1, h2, fun a ha hl => fu_new (h3 a ha hl)⟩
theorem CR.new {f : Nat → Nat} {B i t : Nat} {w : World} {C : Array Value → Prop} (x y : Value) (hB : B ≤ w.heap.size) (h : C #[x, y]) : CR (fu f w.heap.size i) B i t (w.alloc (.cells #[x, y] t)) (.pointer (some ⟨w.heap.size, 0, none⟩)) C :=
  ⟨w.heap.size, x, y, rfl, hB, fu_new (Nat.le_refl _), heap_alloc_new _ _, h⟩
theorem NR.store {f : Nat → Nat} {i g : Nat} {w : World} {c : Bool} {L : List Nm} {v : Value} (h : NR f i w c L v) (hg : f g ≠ i) (cs : Array Value) : NR f i (w.setRow g cs) c L v := by
  obtain ⟨p, cap, h1, h2, h3⟩ := h
  exact ⟨p, cap, h1, h2.setRow (fun a ha hl e => hg (by rw [← e]; exact h3 a ha hl)) cs, h3⟩
theorem CR.other {f : Nat → Nat} {B i t g : Nat} {w : World} {v : Value} {C : Array Value → Prop} (h : CR f B i t w v C) (hg : f g ≠ i) (cs : Array Value) : CR f B i t (w.setRow g cs) v C := by
  obtain ⟨g', x, y, h1, h2, h3, h4, h5⟩ := h
  exact ⟨g', x, y, h1, h2, h3, (setRow_other _ _ _ _ (fun e => hg (by rw [← e]; exact h3))).trans h4, h5⟩
theorem CR.mono {f : Nat → Nat} {B i t : Nat} {w : World} {v : Value} {C C' : Array Value → Prop} (h : CR f B i t w v C) (hc : ∀ cs, C cs → C' cs) : CR f B i t w v C' := by
  obtain ⟨g', x, y, h1, h2, h3, h4, h5⟩ := h
  exact ⟨g', x, y, h1, h2, h3, h4, hc _ h5⟩
theorem after_of {D : Nat → Prop} {l : Array Edge} (hA : ∀ e ∈ l.toList, Region.binds .any e = true → D e.on) (m : Nat) (h : (l.toList.any fun e => Region.binds .any e && e.on == m) = true) : D m := by
  rw [List.any_eq_true] at h
  obtain ⟨e, he, h⟩ := h
  simp only [Bool.and_eq_true, beq_iff_eq] at h
  rw [← h.2]; exact hA e he h.1
set_option maxRecDepth 100000 in
set_option maxHeartbeats 32000000 in
theorem intersect_any (c1 : Bool) (p1 : Option Addr) (cap1 : Nat) (L1 : List Nm) (h1 : L1.length ≤ 100000) (c2 : Bool) (p2 : Option Addr) (cap2 : Nat) (L2 : List Nm) (h2 : L2.length ≤ 100000) (w : World) (hS1 : SL w p1 L1) (hS2 : SL w p2 L2) :
    Calls Try.prog 13 #[.agg #[.bool c1, .slice p1 L1.length cap1], .agg #[.bool c2, .slice p2 L2.length cap2]] w (NA w (c1 && c2) (nrm (interL c1 L1 c2 L2))) := by
  have hb0 : Below w.heap.size w (((w.alloc (.cells #[.bool c1, .slice p1 L1.length cap1] 25)).alloc (.cells #[.bool c2, .slice p2 L2.length cap2] 25)).alloc (.cells #[.bool false, .slice none 0 0] 25)) := below_alloc (below_alloc ((Below.refl _ _).alloc (Nat.le_refl _) _) _) _
  have hS1' := hS1.below hb0
  have hS2' := hS2.below hb0
  have hs0 : (((w.alloc (.cells #[.bool c1, .slice p1 L1.length cap1] 25)).alloc (.cells #[.bool c2, .slice p2 L2.length cap2] 25)).alloc (.cells #[.bool false, .slice none 0 0] 25)).heap.size = w.heap.size + 3 := by simp
  have hr0 : (((w.alloc (.cells #[.bool c1, .slice p1 L1.length cap1] 25)).alloc (.cells #[.bool c2, .slice p2 L2.length cap2] 25)).alloc (.cells #[.bool false, .slice none 0 0] 25)).heap[w.heap.size]? = some (.cells #[.bool c1, .slice p1 L1.length cap1] 25) := (heap_alloc_old _ _ (by simp; omega)).trans (two_row0 w _ _)
  have hr1 : (((w.alloc (.cells #[.bool c1, .slice p1 L1.length cap1] 25)).alloc (.cells #[.bool c2, .slice p2 L2.length cap2] 25)).alloc (.cells #[.bool false, .slice none 0 0] 25)).heap[w.heap.size + 1]? = some (.cells #[.bool c2, .slice p2 L2.length cap2] 25) := (heap_alloc_old _ _ (by simp)).trans (two_row1 w _ _)
  have hr2 : (((w.alloc (.cells #[.bool c1, .slice p1 L1.length cap1] 25)).alloc (.cells #[.bool c2, .slice p2 L2.length cap2] 25)).alloc (.cells #[.bool false, .slice none 0 0] 25)).heap[w.heap.size + 2]? = some (.cells #[.bool false, .slice none 0 0] 25) := by
    have := heap_alloc_new ((w.alloc (.cells #[.bool c1, .slice p1 L1.length cap1] 25)).alloc (.cells #[.bool c2, .slice p2 L2.length cap2] 25)) (.cells #[.bool false, .slice none 0 0] 25)
    simpa using this
  have H1 := Lib.hid (show L1.length ≤ 1000000 by omega); have H2 := Lib.hid (show L2.length ≤ 1000000 by omega)
  have K1 := Lib.hid h1; have K2 := Lib.hid h2
  clear hS1 hS2 h1 h2
  have HS1 := Lib.hid hS1'; have HS2 := Lib.hid hS2'; have Hb0 := Lib.hid hb0
  clear hS1' hS2' hb0
  go_enter Try.func13, Try.ntmps13
  go_upto_region 1 with fail
  generalize (((w.alloc (.cells #[.bool c1, .slice p1 L1.length cap1] 25)).alloc (.cells #[.bool c2, .slice p2 L2.length cap2] 25)).alloc (.cells #[.bool false, .slice none 0 0] 25)) = wb at *
  have Hr0 := Lib.hid hr0; have Hr1 := Lib.hid hr1
  have Hr2 := Lib.hid hr2
  have Hlt0 := Lib.hid (show w.heap.size < wb.heap.size by omega)
  have Hlt1 := Lib.hid (show w.heap.size + 1 < wb.heap.size by omega)
  have Hlt2 := Lib.hid (show w.heap.size + 3 ≤ wb.heap.size by omega)
  clear hr0 hr1 hr2 hs0
  obtain ⟨J, hJd⟩ : ∃ J : (Nat → Prop) → Act → World → Prop, J = fun D a w' => ∃ (f : Nat → Nat) (s10 s11 s12 s13 s5 s6 : Value), a = ⟨((.agg #[.bool c1, .slice p1 L1.length cap1]) :: (.agg #[.bool c2, .slice p2 L2.length cap2]) :: (.pointer (some ⟨w.heap.size, 0, none⟩)) :: (.pointer (some ⟨w.heap.size + 1, 0, none⟩)) :: (.pointer (some ⟨w.heap.size + 2, 0, none⟩)) :: s5 :: s6 :: undef :: undef :: undef :: s10 :: s11 :: s12 :: s13 :: undef :: undef :: undef :: undef :: undef :: undef :: undef :: undef :: undef :: undef :: undef :: undef :: undef :: undef :: undef :: undef :: undef :: undef :: undef :: undef :: undef :: undef :: undef :: undef :: undef :: undef :: undef :: undef :: undef :: undef :: undef :: undef :: undef :: undef :: undef :: undef :: undef :: undef :: undef :: undef :: undef :: undef :: undef :: undef :: undef :: undef :: undef :: []).toArray, []⟩ ∧ Below wb.heap.size wb w' ∧ (D 0 → s10 = (.agg #[.bool c1, .slice p1 L1.length cap1])) ∧ (D 1 → NR f 1 w' c1 (nrm L1) s11) ∧ (D 2 → s12 = (.agg #[.bool c2, .slice p2 L2.length cap2])) ∧ (D 3 → NR f 3 w' c2 (nrm L2) s13) ∧ (D 4 → CR f wb.heap.size 4 45 w' s5 fun cs => D 6 → s11 = .agg cs) ∧ (D 5 → CR f wb.heap.size 5 45 w' s6 fun cs => D 7 → s13 = .agg cs) ∧ (D 6 → D 4) ∧ (D 6 → D 1) ∧ (D 7 → D 5) ∧ (D 7 → D 3) := ⟨_, rfl⟩
  have HJ := Lib.hid hJd; clear hJd
  refine Inv.wp_region_inv J (by kernel_rfl) (by decide +kernel) ?_ ?_ ?_
  · rw [HJ.out]
    exact ⟨fun _ => 0, _, _, _, _, _, _, rfl, (Below.refl _ _).drew, fun h => h.elim, fun h => h.elim, fun h => h.elim, fun h => h.elim, fun h => h.elim, fun h => h.elim, fun h => h.elim, fun h => h.elim, fun h => h.elim, fun h => h.elim⟩
  · intro i o hi D a w' hD hA hJ
    rw [HJ.out] at hJ
    obtain ⟨f, s10, s11, s12, s13, s5, s6, rfl, hb, h0, h1, h2, h3, h4, h5, g6_4, g6_1, g7_5, g7_3⟩ := hJ
    match i, hi, hA with
    | 0, hi, hA =>
      obtain rfl := Option.some.inj hi
      clear hi
      clear hA
      have hrow := row_keep hb Hlt0.out Hr0.out
      clear hD
      have H0 := Lib.hid h0; have H1 := Lib.hid h1; have H2 := Lib.hid h2; have H3 := Lib.hid h3; have H4 := Lib.hid h4; have H5 := Lib.hid h5; have Hb := Lib.hid hb; clear hb h0 h1 h2 h3 h4 h5
      go_wp2_with ((with_reducible refine at_load ?_); refine wpList_load_row rfl 25 (.tmp 2) rfl _ rfl _ _ (0, 0) _ hrow rfl rfl (by kernel_rfl) ?_)
      rw [HJ.out]
      exact ⟨f, _, _, _, _, _, _, rfl, Hb.out, fun _ => rfl, fun h => H1.out (h.resolve_right (by decide)), fun h => H2.out (h.resolve_right (by decide)), fun h => H3.out (h.resolve_right (by decide)), fun h => (H4.out (h.resolve_right (by decide))).mono fun cs hc h' => hc (h'.resolve_right (by decide)), fun h => (H5.out (h.resolve_right (by decide))).mono fun cs hc h' => hc (h'.resolve_right (by decide)), fun h => .inl (g6_4 (h.resolve_right (by decide))), fun h => .inl (g6_1 (h.resolve_right (by decide))), fun h => .inl (g7_5 (h.resolve_right (by decide))), fun h => .inl (g7_3 (h.resolve_right (by decide)))⟩
    | 1, hi, hA =>
      obtain rfl := Option.some.inj hi
      clear hi
      have d0 := after_of hA 0 (by decide +kernel)
      clear hA
      obtain rfl := h0 d0
      have hcall := normalize_any c1 p1 cap1 L1 H1.out w' (HS1.out.below hb)
      have H0 := Lib.hid h0; have H1 := Lib.hid h1; have H2 := Lib.hid h2; have H3 := Lib.hid h3; have H4 := Lib.hid h4; have H5 := Lib.hid h5; have Hb := Lib.hid hb; have HD := Lib.hid hD; clear hb hD h0 h1 h2 h3 h4 h5
      have hsz := Lib.hid Hb.out.size
      go_wp2_with (go_at_call 29; refine hcall.mono ?_; rintro e w2 hna; obtain ⟨pq, capq, rfl, hq2, hq3, hq4⟩ := hna; have Hna := Lib.hid (show NA w' c1 (nrm L1) (.returned (.agg #[.bool c1, .slice pq (nrm L1).length capq])) w2 from ⟨pq, capq, rfl, hq2, hq3, hq4⟩); have Hq4 := Lib.hid hq4; clear hq2 hq3 hq4)
      rw [HJ.out]
      exact ⟨fu f w'.heap.size 1, _, _, _, _, _, _, rfl, Hb.out.trans (Hq4.out.mono hsz.out), fun _ => rfl, fun _ => NR.new Hna.out, fun h => H2.out (h.resolve_right (by decide)), fun h => (H3.out (h.resolve_right (by decide))).grow Hq4.out, fun h => ((H4.out (h.resolve_right (by decide))).grow Hq4.out).mono fun cs hc h' => (HD.out (g6_1 (h'.resolve_right (by decide)))).elim, fun h => ((H5.out (h.resolve_right (by decide))).grow Hq4.out).mono fun cs hc h' => hc (h'.resolve_right (by decide)), fun h => .inl (g6_4 (h.resolve_right (by decide))), fun _ => .inr rfl, fun h => .inl (g7_5 (h.resolve_right (by decide))), fun h => .inl (g7_3 (h.resolve_right (by decide)))⟩
    | 2, hi, hA =>
      obtain rfl := Option.some.inj hi
      clear hi
      clear hA
      have hrow := row_keep hb Hlt1.out Hr1.out
      clear hD
      have H0 := Lib.hid h0; have H1 := Lib.hid h1; have H2 := Lib.hid h2; have H3 := Lib.hid h3; have H4 := Lib.hid h4; have H5 := Lib.hid h5; have Hb := Lib.hid hb; clear hb h0 h1 h2 h3 h4 h5
      go_wp2_with ((with_reducible refine at_load ?_); refine wpList_load_row rfl 25 (.tmp 3) rfl _ rfl _ _ (0, 0) _ hrow rfl rfl (by kernel_rfl) ?_)
      rw [HJ.out]
      exact ⟨f, _, _, _, _, _, _, rfl, Hb.out, fun h => H0.out (h.resolve_right (by decide)), fun h => H1.out (h.resolve_right (by decide)), fun _ => rfl, fun h => H3.out (h.resolve_right (by decide)), fun h => (H4.out (h.resolve_right (by decide))).mono fun cs hc h' => hc (h'.resolve_right (by decide)), fun h => (H5.out (h.resolve_right (by decide))).mono fun cs hc h' => hc (h'.resolve_right (by decide)), fun h => .inl (g6_4 (h.resolve_right (by decide))), fun h => .inl (g6_1 (h.resolve_right (by decide))), fun h => .inl (g7_5 (h.resolve_right (by decide))), fun h => .inl (g7_3 (h.resolve_right (by decide)))⟩
    | 3, hi, hA =>
      obtain rfl := Option.some.inj hi
      clear hi
      have d2 := after_of hA 2 (by decide +kernel)
      clear hA
      obtain rfl := h2 d2
      have hcall := normalize_any c2 p2 cap2 L2 H2.out w' (HS2.out.below hb)
      have H0 := Lib.hid h0; have H1 := Lib.hid h1; have H2 := Lib.hid h2; have H3 := Lib.hid h3; have H4 := Lib.hid h4; have H5 := Lib.hid h5; have Hb := Lib.hid hb; have HD := Lib.hid hD; clear hb hD h0 h1 h2 h3 h4 h5
      have hsz := Lib.hid Hb.out.size
      go_wp2_with (go_at_call 29; refine hcall.mono ?_; rintro e w2 hna; obtain ⟨pq, capq, rfl, hq2, hq3, hq4⟩ := hna; have Hna := Lib.hid (show NA w' c2 (nrm L2) (.returned (.agg #[.bool c2, .slice pq (nrm L2).length capq])) w2 from ⟨pq, capq, rfl, hq2, hq3, hq4⟩); have Hq4 := Lib.hid hq4; clear hq2 hq3 hq4)
      rw [HJ.out]
      exact ⟨fu f w'.heap.size 3, _, _, _, _, _, _, rfl, Hb.out.trans (Hq4.out.mono hsz.out), fun h => H0.out (h.resolve_right (by decide)), fun h => (H1.out (h.resolve_right (by decide))).grow Hq4.out, fun _ => rfl, fun _ => NR.new Hna.out, fun h => ((H4.out (h.resolve_right (by decide))).grow Hq4.out).mono fun cs hc h' => hc (h'.resolve_right (by decide)), fun h => ((H5.out (h.resolve_right (by decide))).grow Hq4.out).mono fun cs hc h' => (HD.out (g7_3 (h'.resolve_right (by decide)))).elim, fun h => .inl (g6_4 (h.resolve_right (by decide))), fun h => .inl (g6_1 (h.resolve_right (by decide))), fun h => .inl (g7_5 (h.resolve_right (by decide))), fun _ => .inr rfl⟩
    | 4, hi, hA =>
      obtain rfl := Option.some.inj hi
      clear hi
      clear hA
      have hst : ¬ D 6 := fun h => hD (g6_4 h)
      have H0 := Lib.hid h0; have H1 := Lib.hid h1; have H2 := Lib.hid h2; have H3 := Lib.hid h3; have H4 := Lib.hid h4; have H5 := Lib.hid h5; have Hb := Lib.hid hb; have Hst := Lib.hid hst; clear hb hD hst h0 h1 h2 h3 h4 h5
      go_wp2
      have hal : ∀ ob, Below w'.heap.size w' (w'.alloc ob) := fun ob => (Below.refl _ _).alloc (Nat.le_refl _) ob
      rw [HJ.out]
      exact ⟨fu f w'.heap.size 4, _, _, _, _, _, _, rfl, Hb.out.trans ((hal _).mono Hb.out.size), fun h => H0.out (h.resolve_right (by decide)), fun h => (H1.out (h.resolve_right (by decide))).grow (hal _), fun h => H2.out (h.resolve_right (by decide)), fun h => (H3.out (h.resolve_right (by decide))).grow (hal _), fun _ => CR.new _ _ Hb.out.size fun h => (Hst.out (h.resolve_right (by decide))).elim, fun h => ((H5.out (h.resolve_right (by decide))).grow (hal _)).mono fun cs hc h' => hc (h'.resolve_right (by decide)), fun _ => .inr rfl, fun h => .inl (g6_1 (h.resolve_right (by decide))), fun h => .inl (g7_5 (h.resolve_right (by decide))), fun h => .inl (g7_3 (h.resolve_right (by decide)))⟩
    | 5, hi, hA =>
      obtain rfl := Option.some.inj hi
      clear hi
      clear hA
      have hst : ¬ D 7 := fun h => hD (g7_5 h)
      have H0 := Lib.hid h0; have H1 := Lib.hid h1; have H2 := Lib.hid h2; have H3 := Lib.hid h3; have H4 := Lib.hid h4; have H5 := Lib.hid h5; have Hb := Lib.hid hb; have Hst := Lib.hid hst; clear hb hD hst h0 h1 h2 h3 h4 h5
      go_wp2
      have hal : ∀ ob, Below w'.heap.size w' (w'.alloc ob) := fun ob => (Below.refl _ _).alloc (Nat.le_refl _) ob
      rw [HJ.out]
      exact ⟨fu f w'.heap.size 5, _, _, _, _, _, _, rfl, Hb.out.trans ((hal _).mono Hb.out.size), fun h => H0.out (h.resolve_right (by decide)), fun h => (H1.out (h.resolve_right (by decide))).grow (hal _), fun h => H2.out (h.resolve_right (by decide)), fun h => (H3.out (h.resolve_right (by decide))).grow (hal _), fun h => ((H4.out (h.resolve_right (by decide))).grow (hal _)).mono fun cs hc h' => hc (h'.resolve_right (by decide)), fun _ => CR.new _ _ Hb.out.size fun h => (Hst.out (h.resolve_right (by decide))).elim, fun h => .inl (g6_4 (h.resolve_right (by decide))), fun h => .inl (g6_1 (h.resolve_right (by decide))), fun _ => .inr rfl, fun h => .inl (g7_3 (h.resolve_right (by decide)))⟩
    | 6, hi, hA =>
      obtain rfl := Option.some.inj hi
      clear hi
      have d1 := after_of hA 1 (by decide +kernel)
      have d4 := after_of hA 4 (by decide +kernel)
      clear hA
      obtain ⟨g, x, y, rfl, hg1, hg2, hg3, hg4⟩ := h4 d4
      obtain ⟨pq, capq, rfl, hq2, hq3⟩ := h1 d1
      have hv : NR f 1 w' c1 (nrm L1) (.agg #[.bool c1, .slice pq (nrm L1).length capq]) := ⟨pq, capq, rfl, hq2, hq3⟩
      have H0 := Lib.hid h0; have H1 := Lib.hid h1; have H2 := Lib.hid h2; have H3 := Lib.hid h3; have H5 := Lib.hid h5; have Hb := Lib.hid hb; have Hv := Lib.hid hv; have Hg1 := Lib.hid hg1; have Hg2 := Lib.hid hg2; have Hg3 := Lib.hid hg3; clear hb hD hv hg1 hg2 hg3 hg4 hq2 hq3 h0 h1 h2 h3 h4 h5
      go_wp2_with ((with_reducible refine at_store ?_); refine wpList_store_row rfl 45 (.tmp 5) (.tmp 11) rfl _ _ rfl rfl _ _ Hg3.out (by kernel_rfl) (by kernel_rfl) (by kernel_rfl) ?_)
      rw [HJ.out]
      exact ⟨f, _, _, _, _, _, _, rfl, below_setRow Hb.out Hg1.out _, fun h => H0.out (h.resolve_right (by decide)), fun _ => Hv.out.store (by rw [Hg2.out]; decide) _, fun h => H2.out (h.resolve_right (by decide)), fun h => (H3.out (h.resolve_right (by decide))).store (by rw [Hg2.out]; decide) _, fun _ => ⟨g, _, _, rfl, Hg1.out, Hg2.out, setRow_heap _ _ _ _ _ _ Hg3.out, fun _ => rfl⟩, fun h => ((H5.out (h.resolve_right (by decide))).other (by rw [Hg2.out]; decide) _).mono fun cs hc h' => hc (h'.resolve_right (by decide)), fun _ => .inl d4, fun _ => .inl d1, fun h => .inl (g7_5 (h.resolve_right (by decide))), fun h => .inl (g7_3 (h.resolve_right (by decide)))⟩
    | 7, hi, hA =>
      obtain rfl := Option.some.inj hi
      clear hi
      have d3 := after_of hA 3 (by decide +kernel)
      have d5 := after_of hA 5 (by decide +kernel)
      clear hA
      obtain ⟨g, x, y, rfl, hg1, hg2, hg3, hg4⟩ := h5 d5
      obtain ⟨pq, capq, rfl, hq2, hq3⟩ := h3 d3
      have hv : NR f 3 w' c2 (nrm L2) (.agg #[.bool c2, .slice pq (nrm L2).length capq]) := ⟨pq, capq, rfl, hq2, hq3⟩
      have H0 := Lib.hid h0; have H1 := Lib.hid h1; have H2 := Lib.hid h2; have H3 := Lib.hid h3; have H4 := Lib.hid h4; have Hb := Lib.hid hb; have Hv := Lib.hid hv; have Hg1 := Lib.hid hg1; have Hg2 := Lib.hid hg2; have Hg3 := Lib.hid hg3; clear hb hD hv hg1 hg2 hg3 hg4 hq2 hq3 h0 h1 h2 h3 h4 h5
      go_wp2_with ((with_reducible refine at_store ?_); refine wpList_store_row rfl 45 (.tmp 6) (.tmp 13) rfl _ _ rfl rfl _ _ Hg3.out (by kernel_rfl) (by kernel_rfl) (by kernel_rfl) ?_)
      rw [HJ.out]
      exact ⟨f, _, _, _, _, _, _, rfl, below_setRow Hb.out Hg1.out _, fun h => H0.out (h.resolve_right (by decide)), fun h => (H1.out (h.resolve_right (by decide))).store (by rw [Hg2.out]; decide) _, fun h => H2.out (h.resolve_right (by decide)), fun _ => Hv.out.store (by rw [Hg2.out]; decide) _, fun h => ((H4.out (h.resolve_right (by decide))).other (by rw [Hg2.out]; decide) _).mono fun cs hc h' => hc (h'.resolve_right (by decide)), fun _ => ⟨g, _, _, rfl, Hg1.out, Hg2.out, setRow_heap _ _ _ _ _ _ Hg3.out, fun _ => rfl⟩, fun h => .inl (g6_4 (h.resolve_right (by decide))), fun h => .inl (g6_1 (h.resolve_right (by decide))), fun _ => .inl d5, fun _ => .inl d3⟩
    | n + 8, hi, hA => cases hi
  · intro D a w' hall hJ
    rw [HJ.out] at hJ
    obtain ⟨f, s10, s11, s12, s13, s5, s6, rfl, hb, h0, h1, h2, h3, h4, h5, g6_4, g6_1, g7_5, g7_3⟩ := hJ
    have hd : ∀ i, i < 8 → D i := hall
    clear hall
    obtain ⟨g1, xa, ya, rfl, hg1, hf1, hr3, hc1⟩ := h4 (hd 4 (by decide))
    obtain ⟨g2, xb, yb, rfl, hg2, hf2, hr4, hc2⟩ := h5 (hd 5 (by decide))
    obtain ⟨q1, k1, rfl, hs1, hz1⟩ := h1 (hd 1 (by decide))
    obtain ⟨q2, k2, rfl, hs2, hz2⟩ := h3 (hd 3 (by decide))
    have e1 := hc1 (hd 6 (by decide))
    have e2 := hc2 (hd 7 (by decide))
    simp only [Value.agg.injEq, Array.mk.injEq, List.cons.injEq, and_true] at e1 e2
    obtain ⟨rfl, rfl⟩ := e1
    obtain ⟨rfl, rfl⟩ := e2
    clear h0 h1 h2 h3 h4 h5 g6_4 g6_1 g7_5 g7_3 hd hc1 hc2 hf1 hf2 hz1 hz2
    have hr5 := row_keep hb (show w.heap.size + 2 < wb.heap.size from Hlt2.out) Hr2.out
    have Hr5 := Lib.hid hr5; have Hr3 := Lib.hid hr3; have Hr4 := Lib.hid hr4
    have hbw := Hb0.out.trans (hb.mono Hb0.out.size)
    have Hbw := Lib.hid hbw
    have Hlw := Lib.hid (show w.heap.size + 3 ≤ w'.heap.size from Nat.le_trans Hlt2.out hb.size)
    have hn1 : (nrm L1).length ≤ 100000 := Nat.le_trans (nrm_len L1) K1.out
    have hn2 : (nrm L2).length ≤ 100000 := Nat.le_trans (nrm_len L2) K2.out
    have N1 := Lib.hid hn1; have N2 := Lib.hid hn2
    have A1 := Lib.hid (nrm_asc L1); have A2 := Lib.hid (nrm_asc L2)
    have Hs1 := Lib.hid hs1; have Hs2 := Lib.hid hs2
    have x1 : w'.cell? ⟨g1, 0, none⟩ = some (.bool c1) := cell_of_row _ _ _ _ _ _ hr3
    have x2 : w'.cell? ⟨g2, 0, none⟩ = some (.bool c2) := cell_of_row _ _ _ _ _ _ hr4
    have Hx3 := Lib.hid (show w'.cell? ⟨g1, 1, none⟩ = some (.slice q1 (nrm L1).length k1) from cell_of_row _ _ _ _ _ _ hr3)
    have Hgl := Lib.hid (heap_lt hr4)
    clear hr3 hr4 hr5 hb hbw hn1 hn2 hs1 hs2 hg1 hg2
    generalize w' = wm at *
    have hK : ∀ {K : Act → World → Prop} {Q : Exit → Act → World → Prop} {a : Act} {w : World}, K a w → Exit.then K Q .normal a w := fun h => h
    cases c1 with
    | true =>
      cases c2 with
      | true =>
        have hbnd : (nrm L1 ++ nrm L2).length ≤ 1000000 := by rw [List.length_append]; have := N1.out; have := N2.out; omega
        have hmid := both_any true q1 k1 (nrm L1) (Nat.le_trans N1.out (by decide)) true q2 k2 (nrm L2) (Nat.le_trans N2.out (by decide)) wm Hs1.out Hs2.out
        generalize hI : interL true L1 true L2 = M at *
        have hM : nrm L1 ++ nrm L2 = M := hI
        rw [hM] at hmid hbnd
        have HL := Lib.hid hbnd
        clear hI hM hbnd
        refine hK ?_
        go_wp2_with (first
          | ((with_reducible refine at_load ?_); first
              | refine wpList_load_row rfl 45 (.tmp 5) rfl _ rfl _ _ (0, 0) _ Hr3.out rfl rfl (by kernel_rfl) ?_
              | refine wpList_load_row rfl 45 (.tmp 6) rfl _ rfl _ _ (0, 0) _ Hr4.out rfl rfl (by kernel_rfl) ?_)
          | (go_at_call 30; refine hmid.mono ?_; rintro e w1 ⟨v1, rfl, ho1, hb1⟩; obtain ⟨p1', cap1', rfl, _⟩ := ho1.cut; have Hs5 := Lib.hid ho1.sl; have Hb1 := Lib.hid (Hbw.out.trans (hb1.mono (Nat.le_trans (Nat.le_add_right _ 3) Hlw.out))); have Hr6 := Lib.hid (row_keep hb1 Hlw.out Hr5.out); have Hl1 := Lib.hid (Nat.le_trans Hlw.out hb1.size); clear ho1 hb1)
          | (go_at_call 23; refine (cofinite_any _ _ _ HL.out _ Hs5.out).mono ?_; rintro e w2 ⟨p2', cap2', rfl, hs2, hlo2, hb2⟩; have Hs6 := Lib.hid hs2; have Hlo := Lib.hid hlo2; have Hb2 := Lib.hid (Hb1.out.trans (hb2.mono (Nat.le_trans (Nat.le_add_right _ 3) Hl1.out))); have Hr7 := Lib.hid (row_keep hb2 Hl1.out Hr6.out); clear hs2 hlo2 hb2)
          | ((with_reducible refine at_store ?_); refine wpList_store_row rfl 25 (.tmp 4) (.tmp 26) rfl _ _ rfl rfl _ _ Hr7.out (by kernel_rfl) (by kernel_rfl) (by kernel_rfl) ?_))
        exact bodyPost_ret (results_cell_row rfl _ _ (w.heap.size + 2) 25 _ (0, 0) _ rfl (setRow_heap _ _ _ _ _ _ Hr7.out) rfl rfl (by kernel_rfl)) rfl
          ⟨p2', cap2', rfl, Hs6.out.setRow (fun a h1 h2 => by have := Hlo.out a h1 h2; have := Hl1.out; omega) _, fun a h1 h2 => by have := Hlo.out a h1 h2; have := Hl1.out; omega, below_setRow Hb2.out (by omega) _⟩
      | false =>
        have hbnd : (lacks (nrm L1) (nrm L2)).length ≤ 1000000 := Nat.le_trans (List.length_filter_le _ _) (Nat.le_trans N2.out (by decide))
        have hmid := minus_any false q2 k2 (nrm L2) (Nat.le_trans N2.out (by decide)) true q1 k1 (nrm L1) A1.out (Nat.le_trans N1.out (by decide)) wm Hs2.out Hs1.out
        generalize hI : interL true L1 false L2 = M at *
        have hM : lacks (nrm L1) (nrm L2) = M := hI
        rw [hM] at hmid hbnd
        have HL := Lib.hid hbnd
        clear hI hM hbnd
        refine hK ?_
        go_wp2_with (first
          | ((with_reducible refine at_load ?_); first
              | refine wpList_load_row rfl 45 (.tmp 5) rfl _ rfl _ _ (0, 0) _ Hr3.out rfl rfl (by kernel_rfl) ?_
              | refine wpList_load_row rfl 45 (.tmp 6) rfl _ rfl _ _ (0, 0) _ Hr4.out rfl rfl (by kernel_rfl) ?_)
          | (go_at_call 31; refine hmid.mono ?_; rintro e w1 ⟨v1, rfl, ho1, hb1⟩; obtain ⟨p1', cap1', rfl, _⟩ := ho1.cut; have Hs5 := Lib.hid ho1.sl; have Hb1 := Lib.hid (Hbw.out.trans (hb1.mono (Nat.le_trans (Nat.le_add_right _ 3) Hlw.out))); have Hr6 := Lib.hid (row_keep hb1 Hlw.out Hr5.out); have Hl1 := Lib.hid (Nat.le_trans Hlw.out hb1.size); clear ho1 hb1)
          | (go_at_call 22; refine (finite_any _ _ _ HL.out _ Hs5.out).mono ?_; rintro e w2 ⟨p2', cap2', rfl, hs2, hlo2, hb2⟩; have Hs6 := Lib.hid hs2; have Hlo := Lib.hid hlo2; have Hb2 := Lib.hid (Hb1.out.trans (hb2.mono (Nat.le_trans (Nat.le_add_right _ 3) Hl1.out))); have Hr7 := Lib.hid (row_keep hb2 Hl1.out Hr6.out); clear hs2 hlo2 hb2)
          | ((with_reducible refine at_store ?_); refine wpList_store_row rfl 25 (.tmp 4) (.tmp 34) rfl _ _ rfl rfl _ _ Hr7.out (by kernel_rfl) (by kernel_rfl) (by kernel_rfl) ?_))
        exact bodyPost_ret (results_cell_row rfl _ _ (w.heap.size + 2) 25 _ (0, 0) _ rfl (setRow_heap _ _ _ _ _ _ Hr7.out) rfl rfl (by kernel_rfl)) rfl
          ⟨p2', cap2', rfl, Hs6.out.setRow (fun a h1 h2 => by have := Hlo.out a h1 h2; have := Hl1.out; omega) _, fun a h1 h2 => by have := Hlo.out a h1 h2; have := Hl1.out; omega, below_setRow Hb2.out (by omega) _⟩
    | false =>
      cases c2 with
      | true =>
        have hbnd : (lacks (nrm L2) (nrm L1)).length ≤ 1000000 := Nat.le_trans (List.length_filter_le _ _) (Nat.le_trans N1.out (by decide))
        have hmid := minus_any false q1 k1 (nrm L1) (Nat.le_trans N1.out (by decide)) true q2 k2 (nrm L2) A2.out (Nat.le_trans N2.out (by decide)) wm Hs1.out Hs2.out
        generalize hI : interL false L1 true L2 = M at *
        have hM : lacks (nrm L2) (nrm L1) = M := hI
        rw [hM] at hmid hbnd
        have HL := Lib.hid hbnd
        clear hI hM hbnd
        refine hK ?_
        go_wp2_with (first
          | ((with_reducible refine at_load ?_); first
              | refine wpList_load_row rfl 45 (.tmp 5) rfl _ rfl _ _ (0, 0) _ Hr3.out rfl rfl (by kernel_rfl) ?_
              | refine wpList_load_row rfl 45 (.tmp 6) rfl _ rfl _ _ (0, 0) _ Hr4.out rfl rfl (by kernel_rfl) ?_)
          | (go_at_call 31; refine hmid.mono ?_; rintro e w1 ⟨v1, rfl, ho1, hb1⟩; obtain ⟨p1', cap1', rfl, _⟩ := ho1.cut; have Hs5 := Lib.hid ho1.sl; have Hb1 := Lib.hid (Hbw.out.trans (hb1.mono (Nat.le_trans (Nat.le_add_right _ 3) Hlw.out))); have Hr6 := Lib.hid (row_keep hb1 Hlw.out Hr5.out); have Hl1 := Lib.hid (Nat.le_trans Hlw.out hb1.size); clear ho1 hb1)
          | (go_at_call 22; refine (finite_any _ _ _ HL.out _ Hs5.out).mono ?_; rintro e w2 ⟨p2', cap2', rfl, hs2, hlo2, hb2⟩; have Hs6 := Lib.hid hs2; have Hlo := Lib.hid hlo2; have Hb2 := Lib.hid (Hb1.out.trans (hb2.mono (Nat.le_trans (Nat.le_add_right _ 3) Hl1.out))); have Hr7 := Lib.hid (row_keep hb2 Hl1.out Hr6.out); clear hs2 hlo2 hb2)
          | ((with_reducible refine at_store ?_); refine wpList_store_row rfl 25 (.tmp 4) (.tmp 42) rfl _ _ rfl rfl _ _ Hr7.out (by kernel_rfl) (by kernel_rfl) (by kernel_rfl) ?_))
        exact bodyPost_ret (results_cell_row rfl _ _ (w.heap.size + 2) 25 _ (0, 0) _ rfl (setRow_heap _ _ _ _ _ _ Hr7.out) rfl rfl (by kernel_rfl)) rfl
          ⟨p2', cap2', rfl, Hs6.out.setRow (fun a h1 h2 => by have := Hlo.out a h1 h2; have := Hl1.out; omega) _, fun a h1 h2 => by have := Hlo.out a h1 h2; have := Hl1.out; omega, below_setRow Hb2.out (by omega) _⟩
      | false =>
        have x3 := Hx3.out
        have HI := Lib.hid (show interL false L1 false L2 = shares (nrm L2) (nrm L1) from rfl)
        generalize interL false L1 false L2 = M at *
        have hll := N1.out
        generalize hX : nrm L1 = X at *
        generalize hY : nrm L2 = Y at *
        clear hX hY
        refine hK ?_
        go_wp2
        go_loopw [7, 47] (fun v i wr => ∃ k : Nat, k ≤ X.length ∧ i = .int .i64 k ∧ OI wm wm.heap.size v (shares Y (X.take k)) wr) (fun _ i _ => X.length - (intOf i).toNat)
        case atStart => exact ⟨0, by omega, rfl, OS.nil _ _, Below.refl _ _⟩
        case round =>
          obtain ⟨k, hk, rfl, hoi⟩ := hrel
          have Hoi := Lib.hid hoi; clear hoi
          by_cases hlt : k < X.length
          · obtain ⟨a, o, rfl, ha, c0⟩ := (Hs1.out.below Hoi.out.below).cell k hlt
            have Hr9 := Lib.hid (row_keep Hoi.out.below Hgl.out Hr4.out)
            have hh := has_any false q2 k2 Y X[k] A2.out (Nat.le_trans N2.out (by decide)) wr (Hs2.out.below Hoi.out.below)
            have Hsz := Lib.hid (Hs1.out.size X[k] (List.getElem_mem hlt))
            have htk : shares Y (X.take (k + 1)) = shares Y (X.take k) ++ (if X[k] ∈ Y then [X[k]] else []) := by
              unfold shares
              rw [List.take_succ_eq_append_getElem hlt, List.filter_append]
              congr 1
              by_cases hm : X[k] ∈ Y <;> simp [hm]
            have Htk := Lib.hid htk; clear htk
            have Hln := Lib.hid (show (shares Y (X.take k)).length ≤ 1000000 from Nat.le_trans (List.length_filter_le _ _) (by simp; omega))
            generalize X[k] = x at *
            clear ha
            cases hd : decide (x ∈ Y) with
            | true =>
              rw [hd] at hh
              have hm : x ∈ Y := by simpa using hd
              clear hd
              go_wp2_with (first
                | ((with_reducible refine at_load ?_); refine wpList_load_row rfl 45 (.tmp 6) rfl _ rfl _ _ (0, 0) _ Hr9.out rfl rfl (by kernel_rfl) ?_)
                | (go_at_call 32; refine hh.mono ?_; rintro e w1 ⟨rfl, hb1⟩; have Hb1 := Lib.hid hb1; have Ho1 := Lib.hid (Hoi.out.own.below hb1); have HB1 := Lib.hid (Hoi.out.below.trans (hb1.mono Hoi.out.below.size)); clear hb1)
                | (at_builtin; refine wpList_append_name rfl (.tmp 54) (.tmp 56) rfl wm.heap.size _ HB1.out.size x Hsz.out _ _ rfl Ho1.out Hln.out rfl ?_; intro v' w2 ho2 hb2; have Ho2 := Lib.hid ho2; have HB2 := Lib.hid (hb2 _ HB1.out); clear ho2 hb2))
              refine ⟨⟨k + 1, by omega, by go_num, ?_⟩, by simp [intOf]; omega⟩
              rw [Htk.out, if_pos hm]
              exact ⟨Ho2.out, HB2.out⟩
            | false =>
              rw [hd] at hh
              have hm : ¬ x ∈ Y := by simpa using hd
              clear hd
              go_wp2_with (first
                | ((with_reducible refine at_load ?_); refine wpList_load_row rfl 45 (.tmp 6) rfl _ rfl _ _ (0, 0) _ Hr9.out rfl rfl (by kernel_rfl) ?_)
                | (go_at_call 32; refine hh.mono ?_; rintro e w1 ⟨rfl, hb1⟩; have Hb1 := Lib.hid hb1; clear hb1))
              refine ⟨⟨k + 1, by omega, by go_num, ?_⟩, by simp [intOf]; omega⟩
              rw [Htk.out, if_neg hm, List.append_nil]
              exact ⟨Hoi.out.own.below Hb1.out, Hoi.out.below.trans (Hb1.out.mono Hoi.out.below.size)⟩
          · obtain rfl : k = X.length := by omega
            rw [List.take_length, ← HI.out] at Hoi
            have Hr6 := Lib.hid (row_keep Hoi.out.below Hlw.out Hr5.out)
            have Hb1 := Lib.hid (Hbw.out.trans (Hoi.out.below.mono (Nat.le_trans (Nat.le_add_right _ 3) Hlw.out)))
            have Hl1 := Lib.hid (Nat.le_trans Hlw.out Hoi.out.below.size)
            have hbnd : M.length ≤ 1000000 := by rw [HI.out]; exact Nat.le_trans (List.length_filter_le _ _) (Nat.le_trans N1.out (by decide))
            obtain ⟨p1', cap1', rfl, _⟩ := Hoi.out.own.cut
            have HL := Lib.hid hbnd
            have Hs5 := Lib.hid Hoi.out.own.sl
            clear hbnd
            go_wp2_with (first
              | (go_at_call 22; refine (finite_any _ _ _ HL.out _ Hs5.out).mono ?_; rintro e w2 ⟨p2', cap2', rfl, hs2, hlo2, hb2⟩; have Hs6 := Lib.hid hs2; have Hlo := Lib.hid hlo2; have Hb2 := Lib.hid (Hb1.out.trans (hb2.mono (Nat.le_trans (Nat.le_add_right _ 3) Hl1.out))); have Hr7 := Lib.hid (row_keep hb2 Hl1.out Hr6.out); clear hs2 hlo2 hb2)
              | ((with_reducible refine at_store ?_); refine wpList_store_row rfl 25 (.tmp 4) (.tmp 60) rfl _ _ rfl rfl _ _ Hr7.out (by kernel_rfl) (by kernel_rfl) (by kernel_rfl) ?_))
            exact bodyPost_ret (results_cell_row rfl _ _ (w.heap.size + 2) 25 _ (0, 0) _ rfl (setRow_heap _ _ _ _ _ _ Hr7.out) rfl rfl (by kernel_rfl)) rfl
              ⟨p2', cap2', rfl, Hs6.out.setRow (fun a h1 h2 => by have := Hlo.out a h1 h2; have := Hl1.out; omega) _, fun a h1 h2 => by have := Hlo.out a h1 h2; have := Hl1.out; omega, below_setRow Hb2.out (by omega) _⟩
end Go.Proofs.Ytejiagmfinhjbaa
