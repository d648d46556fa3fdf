/-
  Walks: awake.
-/
import Derived.Test.YtkppcibffbnhoaaG6
namespace Go.Proofs.Ytkppcibffbnhoaa
open Go.RowKit
set_option maxRecDepth 100000

/-- Whose operation's a block is. -/
def fu (f : Nat → Nat) (n i : Nat) : Nat → Nat := fun b => if b < n then f b else i
theorem fu_old {f : Nat → Nat} {n i b : Nat} (h : b < n) : fu f n i b = f b := if_pos h
theorem fu_new {f : Nat → Nat} {n i b : Nat} (h : n ≤ b) : fu f n i b = i := if_neg (by omega)
/-- The cell that operation i has made. -/
def LC (f : Nat → Nat) (B i : Nat) (w : World) (v : Value) (C : Value → Prop) : Prop :=
  ∃ g x y, v = .pointer (some ⟨g, 0, none⟩) ∧ B ≤ g ∧ f g = i ∧ w.heap[g]? = some (.cells #[x, y] 24) ∧ C (.agg #[x, y])
theorem LC.grow {f : Nat → Nat} {B i j : Nat} {w w' : World} {v : Value} {C : Value → Prop} (h : LC f B i w v C) (hb : Below w.heap.size w w') : LC (fu f w.heap.size j) B i w' v C := by
  obtain ⟨g, x, y, h1, h2, h3, h4, h5⟩ := h
  exact ⟨g, x, y, h1, h2, (fu_old (heap_lt h4)).trans h3, (hb.block g (heap_lt h4)).trans h4, h5⟩
theorem LC.new {f : Nat → Nat} {B i : Nat} {w : World} {C : Value → Prop} (x y : Value) (hB : B ≤ w.heap.size) (h : C (.agg #[x, y])) : LC (fu f w.heap.size i) B i (w.alloc (.cells #[x, y] 24)) (.pointer (some ⟨w.heap.size, 0, none⟩)) C :=
  ⟨w.heap.size, x, y, rfl, hB, fu_new (Nat.le_refl _), heap_alloc_new _ _, h⟩
theorem LC.other {f : Nat → Nat} {B i g : Nat} {w : World} {v : Value} {C : Value → Prop} (h : LC f B i w v C) (hg : f g ≠ i) (cs : Array Value) : LC f B i (w.setRow g cs) v C := by
  obtain ⟨g', x, y, h1, h2, h3, h4, h5⟩ := h
  exact ⟨g', x, y, h1, h2, h3, (setRow_other _ _ _ _ (fun e => hg (by rw [← e]; exact h3))).trans h4, h5⟩
theorem LC.mono {f : Nat → Nat} {B i : Nat} {w : World} {v : Value} {C C' : Value → Prop} (h : LC f B i w v C) (hc : ∀ u, C u → C' u) : LC f B i w v C' := by
  obtain ⟨g', x, y, h1, h2, h3, h4, h5⟩ := h
  exact ⟨g', x, y, h1, h2, h3, h4, hc _ h5⟩
theorem op_tree {g : (Nat → Bool) → Bool} (hg : ∀ a b, (∀ i, i < 12 → a i = b i) → g a = g b) : ∃ R : T, R.Ok ∧ ∀ a, R.ev a = g a := tree_of g hg
theorem not_tree {s : T} (os : s.Ok) : ∃ R : T, R.Ok ∧ ∀ a, R.ev a = !(s.ev a) := tree_of _ fun a b h => by rw [ev_same os h]
theorem and_tree {s t : T} (os : s.Ok) (ot : t.Ok) : ∃ R : T, R.Ok ∧ ∀ a, R.ev a = (s.ev a && t.ev a) := tree_of _ fun a b h => by rw [ev_same os h, ev_same ot h]
theorem or_tree {s t : T} (os : s.Ok) (ot : t.Ok) : ∃ R : T, R.Ok ∧ ∀ a, R.ev a = (s.ev a || t.ev a) := tree_of _ fun a b h => by rw [ev_same os h, ev_same ot h]
theorem litT_ev (n : Nat) (a : Nat → Bool) : (litT n).ev a = a n := by simp [litT, T.ev]
def nT1 : T := .n 1 (.c false) (.c true)
def aT : T := .n 0 nT1 (.c false)
theorem nT1_ok : nT1.Ok := ⟨trivial, trivial, by decide, by decide, by decide⟩
theorem aT_ok : aT.Ok := ⟨nT1_ok, trivial, by decide, by decide, by decide⟩
def nT0 : T := .n 0 (.c false) (.c true)
theorem nT0_ok : nT0.Ok := ⟨trivial, trivial, by decide, by decide, by decide⟩

set_option maxHeartbeats 16000000 in
theorem awake_any (w : World) : Calls Try.prog 9 #[] w (ER true w) := by
  have hl0 := literal_any 0 (by omega)
  have hl1 := literal_any 1 (by omega)
  have c0 : ((0 : Nat) : Int) = 0 := rfl
  have c1 : ((1 : Nat) : Int) = 1 := rfl
  rw [c0] at hl0
  rw [c1] at hl1
  clear c0 c1
  go_enter Try.func9, Try.ntmps9
  go_upto_region 2 with (go_at_call 26; refine (hl0 _).mono ?_; rintro e w1 ⟨v1, rfl, hd1, hb1⟩; obtain ⟨p1, k1, rfl, -⟩ := id hd1.dd.ex; have Hd1 := Lib.hid hd1; have Hb1 := Lib.hid hb1; clear hd1 hb1)
  have hn2 := heap_alloc_new w1 (.cells #[.slice p1 (canonN (litT 0)).length k1, .int .i64 (canonR (litT 0))] 24)
  have hb2 : Below w1.heap.size w1 (w1.alloc (.cells #[.slice p1 (canonN (litT 0)).length k1, .int .i64 (canonR (litT 0))] 24)) := (Below.refl _ _).alloc (Nat.le_refl _) _
  generalize w1.alloc (.cells #[.slice p1 (canonN (litT 0)).length k1, .int .i64 (canonR (litT 0))] 24) = w2 at *
  have Hn2 := Lib.hid hn2; have Hd2 := Lib.hid (Hd1.out.below hb2); have Hb2 := Lib.hid (Hb1.out.step hb2)
  clear hn2 hb2 Hd1 Hb1
  go_upto_region 3 with (go_at_call 26; refine (hl1 _).mono ?_; rintro e w3 ⟨v3, rfl, hd3, hb3⟩; obtain ⟨p3, k3, rfl, -⟩ := id hd3.dd.ex; have Hd3 := Lib.hid hd3; have Hb3 := Lib.hid hb3; clear hd3 hb3)
  have hn4 := heap_alloc_new w3 (.cells #[.slice p3 (canonN (litT 1)).length k3, .int .i64 (canonR (litT 1))] 24)
  have hb4 : Below w3.heap.size w3 (w3.alloc (.cells #[.slice p3 (canonN (litT 1)).length k3, .int .i64 (canonR (litT 1))] 24)) := (Below.refl _ _).alloc (Nat.le_refl _) _
  generalize w3.alloc (.cells #[.slice p3 (canonN (litT 1)).length k3, .int .i64 (canonR (litT 1))] 24) = wb at *
  have hn24 := (((Hb3.out.step hb4).block _ (heap_lt Hn2.out))).trans Hn2.out
  have Ha := Lib.hid (Hd2.out.below (Hb3.out.step hb4)); have Hbb := Lib.hid (Hd3.out.below hb4)
  have Hra := Lib.hid hn24; have Hrb := Lib.hid hn4
  have Hbw := Lib.hid (Hb2.out.step (Hb3.out.step hb4))
  have hla := heap_lt hn24
  have hlb := heap_lt hn4
  clear hn24 hn4 hb4 Hd2 Hd3 Hb2 Hb3 Hn2 hl0 hl1
  generalize (canonN (litT 0)).length = n1 at *
  generalize (canonN (litT 1)).length = n3 at *
  generalize canonR (litT 0) = r1 at *
  generalize canonR (litT 1) = r3 at *
  have hnot1 : ∀ a, nT1.ev a = !((litT 1).ev a) := fun a => by rw [litT_ev]; simp only [nT1, T.ev]; cases a 1 <;> rfl
  have hnot0 : ∀ a, nT0.ev a = !((litT 0).ev a) := fun a => by rw [litT_ev]; simp only [nT0, T.ev]; cases a 0 <;> rfl
  have hand : ∀ a, aT.ev a = ((litT 0).ev a && nT1.ev a) := fun a => by rw [litT_ev]; simp only [aT, T.ev]; cases a 0 <;> rfl
  have hor : ∀ a, (T.c true).ev a = ((litT 0).ev a || nT0.ev a) := fun a => by rw [litT_ev]; simp only [nT0, T.ev]; cases a 0 <;> rfl
  have Hnot1 := Lib.hid hnot1; have Hnot0 := Lib.hid hnot0; have Hand := Lib.hid hand; have Hor := Lib.hid hor
  clear hnot1 hnot0 hand hor
  obtain ⟨J, hJd⟩ : ∃ J : (Nat → Prop) → Act → World → Prop, J = fun (D : Nat → Prop) (ac : Act) (w' : World) => ∃ (f : Nat → Nat) (s15 s16 s17 s18 s5 : Value), ac = ⟨((.bool false) :: (.pointer (some ⟨w1.heap.size, 0, none⟩)) :: (.int .i64 0) :: (.pointer (some ⟨w3.heap.size, 0, none⟩)) :: (.int .i64 0) :: s5 :: undef :: (.tuple #[(.agg #[.slice p1 n1 k1, .int .i64 r1]), .int .i64 0]) :: (.tuple #[(.agg #[.slice p1 n1 k1, .int .i64 r1]), .int .i64 0]) :: (.agg #[.slice p1 n1 k1, .int .i64 r1]) :: (.int .i64 0) :: (.tuple #[(.agg #[.slice p3 n3 k3, .int .i64 r3]), .int .i64 0]) :: (.tuple #[(.agg #[.slice p3 n3 k3, .int .i64 r3]), .int .i64 0]) :: (.agg #[.slice p3 n3 k3, .int .i64 r3]) :: (.int .i64 0) :: s15 :: s16 :: s17 :: s18 :: undef :: undef :: undef :: undef :: undef :: undef :: undef :: undef :: undef :: undef :: undef :: undef :: undef :: undef :: undef :: undef :: undef :: undef :: undef :: undef :: undef :: undef :: undef :: undef :: undef :: undef :: undef :: undef :: undef :: undef :: undef :: undef :: undef :: undef :: undef :: undef :: undef :: undef :: undef :: undef :: undef :: undef :: undef :: undef :: undef :: undef :: []).toArray, []⟩ ∧ Below wb.heap.size wb w' ∧ (D 0 → s15 = (.agg #[.slice p1 n1 k1, .int .i64 r1])) ∧ (D 1 → s16 = (.agg #[.slice p3 n3 k3, .int .i64 r3])) ∧ (D 2 → DV w' s17 nT1) ∧ (D 3 → DV w' s18 aT) ∧ (D 4 → LC f wb.heap.size 4 w' s5 fun v => D 5 → v = s18) ∧ (D 2 → D 1) ∧ (D 3 → D 0) ∧ (D 3 → D 2) ∧ (D 5 → D 4) ∧ (D 5 → D 3) := ⟨_, rfl⟩
  have HJ := Lib.hid hJd; clear hJd
  refine Inv.wp_region_inv J (by kernel_rfl) (by decide +kernel) ?_ ?_ ?_
  · rw [HJ.out]
    exact ⟨fun _ => 0, _, _, _, _, _, rfl, (Below.refl _ _).drew, fun h => h.elim, fun h => h.elim, fun h => h.elim, fun h => h.elim, fun h => h.elim, fun h => h.elim, fun h => h.elim, fun h => h.elim, fun h => h.elim, fun h => h.elim⟩
  · intro i op hi D ac w' hD hA hJ
    rw [HJ.out] at hJ
    obtain ⟨f, s15, s16, s17, s18, s5, rfl, hb, h0, h1, h2, h3, h4, g2_1, g3_0, g3_2, g5_4, g5_3⟩ := hJ
    match i, hi, hA with
    | 0, hi, hA =>
      obtain rfl := Option.some.inj hi
      clear hi
      clear hA
      obtain ⟨c0, c1, -⟩ := cells2 ((hb.block _ hla).trans Hra.out)
      have H0 := Lib.hid h0; have H1 := Lib.hid h1; have H2 := Lib.hid h2; have H3 := Lib.hid h3; have H4 := Lib.hid h4; have Hb := Lib.hid hb; have HD := Lib.hid hD; clear hb hD h0 h1 h2 h3 h4
      go_wp2
      rw [HJ.out]
      exact ⟨f, _, _, _, _, _, rfl, Hb.out, fun _ => rfl, fun h => (H1.out (h.resolve_right (by decide))), fun h => (H2.out (h.resolve_right (by decide))), fun h => (H3.out (h.resolve_right (by decide))), fun h => ((H4.out (h.resolve_right (by decide)))).mono fun v hc h' => hc (h'.resolve_right (by decide)), fun h => .inl (g2_1 (h.resolve_right (by decide))), fun _ => .inr rfl, fun h => .inl (g3_2 (h.resolve_right (by decide))), fun h => .inl (g5_4 (h.resolve_right (by decide))), fun h => .inl (g5_3 (h.resolve_right (by decide)))⟩
    | 1, hi, hA =>
      obtain rfl := Option.some.inj hi
      clear hi
      clear hA
      obtain ⟨c0, c1, -⟩ := cells2 ((hb.block _ hlb).trans Hrb.out)
      have H0 := Lib.hid h0; have H1 := Lib.hid h1; have H2 := Lib.hid h2; have H3 := Lib.hid h3; have H4 := Lib.hid h4; have Hb := Lib.hid hb; have HD := Lib.hid hD; clear hb hD h0 h1 h2 h3 h4
      go_wp2
      rw [HJ.out]
      exact ⟨f, _, _, _, _, _, rfl, Hb.out, fun h => (H0.out (h.resolve_right (by decide))), fun _ => rfl, fun h => (H2.out (h.resolve_right (by decide))), fun h => (H3.out (h.resolve_right (by decide))), fun h => ((H4.out (h.resolve_right (by decide)))).mono fun v hc h' => hc (h'.resolve_right (by decide)), fun _ => .inr rfl, fun h => .inl (g3_0 (h.resolve_right (by decide))), fun h => .inl (g3_2 (h.resolve_right (by decide))), fun h => .inl (g5_4 (h.resolve_right (by decide))), fun h => .inl (g5_3 (h.resolve_right (by decide)))⟩
    | 2, hi, hA =>
      obtain rfl := Option.some.inj hi
      clear hi
      have d1 := after_of hA 1 (by decide +kernel)
      clear hA
      obtain rfl := h1 d1
      have hcall := notD_any _ (litT 1) nT1 w' (Hbb.out.below hb) nT1_ok Hnot1.out
      have H0 := Lib.hid h0; have H1 := Lib.hid h1; have H2 := Lib.hid h2; have H3 := Lib.hid h3; have H4 := Lib.hid h4; have Hb := Lib.hid hb; have HD := Lib.hid hD; clear hb hD h0 h1 h2 h3 h4
      go_wp2_with (go_at_call 16; refine hcall.mono ?_; rintro e w2 ⟨v2, rfl, q1, q2⟩; have Hq1 := Lib.hid q1; have Hq := Lib.hid q2; clear q1 q2)
      rw [HJ.out]
      exact ⟨fu f w'.heap.size 2, _, _, _, _, _, rfl, Hb.out.trans (Hq.out.mono Hb.out.size), fun h => (H0.out (h.resolve_right (by decide))), fun _ => rfl, fun _ => Hq1.out, fun h => ((H3.out (h.resolve_right (by decide)))).below Hq.out, fun h => (((H4.out (h.resolve_right (by decide))).grow Hq.out)).mono fun v hc h' => hc (h'.resolve_right (by decide)), fun _ => .inl d1, fun h => .inl (g3_0 (h.resolve_right (by decide))), fun _ => .inr rfl, fun h => .inl (g5_4 (h.resolve_right (by decide))), fun h => .inl (g5_3 (h.resolve_right (by decide)))⟩
    | 3, hi, hA =>
      obtain rfl := Option.some.inj hi
      clear hi
      have d0 := after_of hA 0 (by decide +kernel)
      have d2 := after_of hA 2 (by decide +kernel)
      clear hA
      obtain rfl := h0 d0
      have hcall := andD_any _ _ (litT 0) nT1 aT w' (Ha.out.below hb) (h2 d2) aT_ok Hand.out
      have H0 := Lib.hid h0; have H1 := Lib.hid h1; have H2 := Lib.hid h2; have H3 := Lib.hid h3; have H4 := Lib.hid h4; have Hb := Lib.hid hb; have HD := Lib.hid hD; clear hb hD h0 h1 h2 h3 h4
      go_wp2_with (go_at_call 13; refine hcall.mono ?_; rintro e w2 ⟨v2, rfl, q1, q2⟩; have Hq1 := Lib.hid q1; have Hq := Lib.hid q2; clear q1 q2)
      rw [HJ.out]
      exact ⟨fu f w'.heap.size 3, _, _, _, _, _, rfl, Hb.out.trans (Hq.out.mono Hb.out.size), fun _ => rfl, fun h => (H1.out (h.resolve_right (by decide))), fun h => ((H2.out (h.resolve_right (by decide)))).below Hq.out, fun _ => Hq1.out, fun h => (((H4.out (h.resolve_right (by decide))).grow Hq.out)).mono fun v hc h' => (HD.out (g5_3 (h'.resolve_right (by decide)))).elim, fun h => .inl (g2_1 (h.resolve_right (by decide))), fun _ => .inl d0, fun _ => .inl d2, fun h => .inl (g5_4 (h.resolve_right (by decide))), fun _ => .inr rfl⟩
    | 4, hi, hA =>
      obtain rfl := Option.some.inj hi
      clear hi
      clear hA
      have hst : ¬ D 5 := fun h => hD (g5_4 h)
      have H0 := Lib.hid h0; have H1 := Lib.hid h1; have H2 := Lib.hid h2; have H3 := Lib.hid h3; have H4 := Lib.hid h4; have Hb := Lib.hid hb; have HD := Lib.hid hD; clear hb hD h0 h1 h2 h3 h4; have Hst := Lib.hid hst; clear hst
      go_wp2
      have Hq := Lib.hid ((Below.refl w'.heap.size w').alloc (Nat.le_refl _) (.cells #[.slice none 0 0, .int .i64 0] 24))
      rw [HJ.out]
      exact ⟨fu f w'.heap.size 4, _, _, _, _, _, rfl, Hb.out.trans (Hq.out.mono Hb.out.size), fun h => (H0.out (h.resolve_right (by decide))), fun h => (H1.out (h.resolve_right (by decide))), fun h => ((H2.out (h.resolve_right (by decide)))).below Hq.out, fun h => ((H3.out (h.resolve_right (by decide)))).below Hq.out, fun _ => LC.new _ _ Hb.out.size fun h => (Hst.out (h.resolve_right (by decide))).elim, fun h => .inl (g2_1 (h.resolve_right (by decide))), fun h => .inl (g3_0 (h.resolve_right (by decide))), fun h => .inl (g3_2 (h.resolve_right (by decide))), fun _ => .inr rfl, fun h => .inl (g5_3 (h.resolve_right (by decide)))⟩
    | 5, hi, hA =>
      obtain rfl := Option.some.inj hi
      clear hi
      have d4 := after_of hA 4 (by decide +kernel)
      have d3 := after_of hA 3 (by decide +kernel)
      clear hA
      obtain ⟨g, x, y, rfl, hg1, hg2, hg3, hg4⟩ := h4 d4
      have hv := h3 d3
      obtain ⟨pq, cq, rfl, -⟩ := id hv.dd.ex
      have H0 := Lib.hid h0; have H1 := Lib.hid h1; have H2 := Lib.hid h2; have H3 := Lib.hid h3; have Hb := Lib.hid hb; have HD := Lib.hid hD; have Hv := Lib.hid hv; have Hg1 := Lib.hid hg1; have Hg2 := Lib.hid hg2; have Hg3 := Lib.hid hg3; clear hb hD hv hg1 hg2 hg3 hg4 h0 h1 h2 h3 h4
      go_wp2_with (with_reducible refine wpList_store_row rfl 24 (.tmp 5) (.tmp 18) rfl _ _ rfl rfl _ _ Hg3.out (by kernel_rfl) (by kernel_rfl) (by kernel_rfl) ?_)
      rw [HJ.out]
      exact ⟨f, _, _, _, _, _, rfl, below_setRow Hb.out Hg1.out, fun h => (H0.out (h.resolve_right (by decide))), fun h => (H1.out (h.resolve_right (by decide))), fun h => ((H2.out (h.resolve_right (by decide)))).setRow Hg3.out, fun _ => Hv.out.setRow Hg3.out, fun _ => ⟨g, _, _, rfl, Hg1.out, Hg2.out, setRow_heap _ _ _ _ _ _ Hg3.out, fun _ => rfl⟩, fun h => .inl (g2_1 (h.resolve_right (by decide))), fun h => .inl (g3_0 (h.resolve_right (by decide))), fun h => .inl (g3_2 (h.resolve_right (by decide))), fun _ => .inl d4, fun _ => .inl d3⟩
    | n + 6, hi, hA => cases hi
  · intro D ac w' hall hJ
    rw [HJ.out] at hJ
    obtain ⟨f, s15, s16, s17, s18, s5, rfl, hb, h0, h1, h2, h3, h4, g2_1, g3_0, g3_2, g5_4, g5_3⟩ := hJ
    have hd : ∀ i, i < 6 → D i := hall
    clear hall
    obtain ⟨g, x, y, rfl, hg1, hg2, hg3, hg4⟩ := h4 (hd 4 (by decide))
    have hx := hg4 (hd 5 (by decide))
    have hda := h3 (hd 3 (by decide))
    obtain rfl := h0 (hd 0 (by decide))
    obtain rfl := h1 (hd 1 (by decide))
    subst hx
    obtain ⟨p5, k5, e5, -⟩ := id hda.dd.ex
    simp only [Value.agg.injEq, Array.mk.injEq, List.cons.injEq, and_true] at e5
    obtain ⟨rfl, rfl⟩ := e5
    obtain ⟨x0, x1, -⟩ := cells2 hg3
    have Hda := Lib.hid hda
    have Hb := Lib.hid hb
    have hra := ((hb.block _ hla).trans Hra.out)
    have Hra2 := Lib.hid hra
    have hlg := heap_lt hg3
    clear HJ J hd h0 h1 h2 h3 h4 hda hb hra hg3 hg4 hg2
    have hK : ∀ {K : Act → World → Prop} {Q : Exit → Act → World → Prop} {a : Act} {w : World}, K a w → Exit.then K Q .normal a w := fun h => h
    refine hK ?_
    have hways : waysT aT [] [] = [([0], [1])] := rfl
    have hp := paths_any _ aT w' Hda.out
    rw [hways] at hp
    go_upto_region 5 with (go_at_call 19; refine hp.mono ?_; rintro e w5 ⟨P, n, cp, rfl, hps, hb5⟩; have Hps := Lib.hid hps; have Hb5 := Lib.hid hb5; clear hps hb5)
    clear hp hways x0 x1
    obtain rfl : n = 1 := Hps.out.len
    obtain ⟨a6, o6, v6, u6, rfl, ha6, y0, y1, i1, i2⟩ := Hps.out.at' 0 (by simp)
    obtain ⟨q1, c1, rfl, hc1, hr1⟩ := i1
    obtain ⟨q2, c2, rfl, hc2, hr2⟩ := i2
    obtain ⟨a7, o7, rfl, ha7, hz⟩ := hr2.2 (by simp)
    have z0 := hz 0 _ rfl
    simp only [Nat.add_zero, Nat.zero_mul, List.length_cons, List.length_nil, Nat.zero_add] at y0 y1 z0 hc1 hc2
    have hra5 := (Hb5.out.block _ (heap_lt Hra2.out)).trans Hra2.out
    obtain ⟨t0, t1, -⟩ := cells2 hra5
    have hla5 := heap_lt hra5
    have Ha5 := Lib.hid (Ha.out.below (Hb.out.step Hb5.out))
    have Hb05 := Lib.hid (Hbw.out.step (Hb.out.step Hb5.out))
    have Hra5 := Lib.hid hra5
    clear hra5 hr1 hr2 hz Hps Hda Hra2 Hra Hrb Hbb Hb Hb5 Hand Hnot1
    have y0' : w5.cell? ⟨a6, o6, none⟩ = some (.slice q1 1 c1) := y0
    have y1' : w5.cell? ⟨a6, o6 + 1, none⟩ = some (.slice (some ⟨a7, o7, none⟩) 1 c2) := y1
    clear y0 y1
    have Y0 := Lib.hid (show w5.drew.cell? ⟨a6, o6, none⟩ = _ from y0')
    have Y1 := Lib.hid (show w5.drew.cell? ⟨a6, o6 + 1, none⟩ = _ from y1')
    have Z0 := Lib.hid (show w5.drew.cell? ⟨a7, o7, none⟩ = _ from z0)
    have T0 := Lib.hid (show w5.drew.cell? ⟨w1.heap.size, 0, none⟩ = _ from t0)
    have Hb5 := Lib.hid (show Below w5.heap.size w5 w5.drew from (Below.refl _ _).drew)
    have L6 := Lib.hid (show a6 < w5.drew.heap.size from ha6)
    have L7 := Lib.hid (show a7 < w5.drew.heap.size from ha7)
    have L1 := Lib.hid (show w1.heap.size < w5.drew.heap.size from hla5)
    go_wp2_with (first
      | ((with_reducible refine Lex.at_finK ?_); refine LexK.finE_on (by kernel_rfl) (by repeat first | exact LexK.finL_nil | refine LexK.finL_none rfl ?_ | refine LexK.finL_skip (by decide +kernel) ?_ | refine LexK.finL_take rfl L6.out Y0.out ?_ | refine LexK.finL_take rfl L6.out Y1.out ?_ | refine LexK.finL_take rfl L7.out Z0.out ?_ | refine LexK.finL_take rfl L1.out T0.out ?_) ?_)
      | ((with_reducible refine Lex.at_region ?_); refine LexK.wp_region_lexE (fun x => x < w5.drew.heap.size) (by kernel_rfl) (by decide +kernel) ?_)
      | ((with_reducible refine Lex.at_wpX ?_); with_reducible refine LexK.wpX_plain (by decide +kernel) ?_)
      | ((with_reducible refine Lex.at_wpX ?_); with_reducible refine LexK.wpX_call ?_)
      | ((with_reducible refine Lex.at_wpX ?_); with_reducible refine LexK.wpX_nil ?_)
      | ((with_reducible refine Lex.at_ext ?_); with_reducible refine LexK.ext_on Hext.out ?_)
      | (go_at_call 16; refine (notD_any _ (litT 0) nT0 _ (Ha5.out.below Hb5.out) nT0_ok Hnot0.out).mono ?_; rintro e w6 ⟨v6, rfl, hd6, hb6⟩; have Hd6 := Lib.hid hd6; have Hext := Lib.hid (LexK.Ext.of_below (Kp := fun x => x < w5.drew.heap.size) hb6 (Nat.le_refl _)); have Hb6 := Lib.hid (Hb5.out.step hb6); clear hd6 hb6)
      | (go_at_call 14; refine (orD_any _ _ (litT 0) nT0 (.c true) _ (Ha5.out.below Hb6.out) Hd6.out trivial Hor.out).mono ?_; rintro e w7 ⟨v7, rfl, hd7, hb7⟩; have Hd7 := Lib.hid hd7; have Hext := Lib.hid (LexK.Ext.of_below (Kp := fun x => x < w5.drew.heap.size) hb7 (Nat.le_refl _)); have Hb7 := Lib.hid (Hb6.out.step hb7); clear hd7 hb7)
      | (go_at_call 28; refine (true_any _).mono ?_; rintro e w8 ⟨v8, rfl, hd8, hb8⟩; have Hd8 := Lib.hid hd8; have Hd78 := Lib.hid (Hd7.out.below hb8); have Hext := Lib.hid (LexK.Ext.of_below (Kp := fun x => x < w5.drew.heap.size) hb8 (Nat.le_refl _)); have Hb8 := Lib.hid (Hb7.out.step hb8); clear hd8 hb8)
      | (go_at_call 15; refine (eqd_tree _ _ (.c true) (.c true) _ Hd78.out Hd8.out).mono ?_; rintro e w9 ⟨rfl, hb9⟩; have Hext := Lib.hid (LexK.Ext.of_below (Kp := fun x => x < w5.drew.heap.size) hb9 (Nat.le_refl _)); have Hb9 := Lib.hid (Hb8.out.step hb9); clear hb9))
    go_ret
    exact ⟨rfl, Hb05.out.step Hb9.out⟩
end Go.Proofs.Ytkppcibffbnhoaa
