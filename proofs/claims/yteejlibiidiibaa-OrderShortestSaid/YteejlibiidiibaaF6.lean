/-
  Walks: find.
-/
import Derived.Test.YteejlibiidiibaaF5
import Derived.Test.YteejlibiidiibaaInv
import Derived.Outline
namespace Go.Proofs.Yteejlibiidiibaa
open Go.RowKit
set_option maxRecDepth 100000
theorem after_of {D : Nat → Prop} {l : Array Edge} (hA : ∀ e ∈ l.toList, Region.binds .any e = true → D e.on) (m : Nat) (h : (l.toList.any fun e => Region.binds .any e && e.on == m) = true) : D m := by
  rw [List.any_eq_true] at h
  obtain ⟨e, he, h⟩ := h
  simp only [Bool.and_eq_true, beq_iff_eq] at h
  rw [← h.2]; exact hA e he h.1
/-- Which operation has made a block. -/
def fu (f : Nat → Nat) (n i : Nat) : Nat → Nat := fun b => if b < n then f b else i
theorem fu_old {f : Nat → Nat} {n i b : Nat} (h : b < n) : fu f n i b = f b := if_pos h
theorem fu_new {f : Nat → Nat} {n i b : Nat} (h : n ≤ b) : fu f n i b = i := if_neg (by omega)
/-- The row that operation i has made. -/
def MK (f : Nat → Nat) (B i n : Nat) (w : World) (v : Value) : Prop := ∃ b, v = .slice (some ⟨b, 0, none⟩) n n ∧ B ≤ b ∧ f b = i ∧ IT w b n fun _ => 0
theorem MK.grow {f : Nat → Nat} {B i j n : Nat} {w w' : World} {v : Value} (h : MK f B i n w v) (hb : Below w.heap.size w w') : MK (fu f w.heap.size j) B i n w' v := by
  obtain ⟨b, h1, h2, h3, h4⟩ := h
  exact ⟨b, h1, h2, (fu_old h4.lt).trans h3, h4.below hb⟩
theorem MK.new (f : Nat → Nat) (w : World) {B i : Nat} (n : Nat) (hB : B ≤ w.heap.size) : MK (fu f w.heap.size i) B i n (w.alloc (.cells (madeCells #[.int .i64 0] n) 3)) (.slice (some ⟨w.heap.size, 0, none⟩) n n) :=
  ⟨_, rfl, hB, fu_new (Nat.le_refl _), IT.made w n⟩
def BX (f : Nat → Nat) (B i : Nat) (w : World) (x v : Value) : Prop := ∃ b, v = .pointer (some ⟨b, 0, none⟩) ∧ B ≤ b ∧ f b = i ∧ ∃ cs, x = .agg cs ∧ w.heap[b]? = some (.cells cs 57)
theorem BX.grow {f : Nat → Nat} {B i j : Nat} {w w' : World} {x v : Value} (h : BX f B i w x v) (hb : Below w.heap.size w w') : BX (fu f w.heap.size j) B i w' x v := by
  obtain ⟨b, h1, h2, h3, cs, h4, h5⟩ := h
  exact ⟨b, h1, h2, (fu_old (heap_lt h5)).trans h3, cs, h4, (hb.block b (heap_lt h5)).trans h5⟩
theorem BX.new (f : Nat → Nat) (w : World) {B i : Nat} {cs : Array Value} (hB : B ≤ w.heap.size) : BX (fu f w.heap.size i) B i (w.alloc (.cells cs 57)) (.agg cs) (.pointer (some ⟨w.heap.size, 0, none⟩)) :=
  ⟨_, rfl, hB, fu_new (Nat.le_refl _), cs, rfl, heap_alloc_new w _⟩
theorem run_make_int (n : Nat) (hn : n ≤ 100000) (w : World) : (Instr.makeSlice 22 (.int .i64 n) (.int .i64 n)).run Try.prog w = .ok (.slice (some ⟨w.heap.size, 0, none⟩) n n) (w.alloc (.cells (madeCells #[.int .i64 0] n) 3)) := by
  obtain ⟨ib, hi, hz, hz1, hz2⟩ := info_parts int_info
  exact run_make_row (P := Try.prog) 22 3 ib (.int .i64 0) (by kernel_rfl) hi hz hz1 rfl .i64 .i64 n (by rw [hz2]; omega) (by omega) w
/-- A row whose block is not older than B. -/
def NRow (B : Nat) (v : Value) : Prop := ∀ (p : Addr) (n c : Nat), v = .slice (some p) n c → B ≤ p.block
/-- Rows of rows that are not older than B. -/
def NG (B : Nat) (w : World) (p : Option Addr) (n : Nat) : Prop := ∀ k, k < n → ∀ (a o : Nat) (u : Value), p = some ⟨a, o, none⟩ → w.cell? ⟨a, o + k, none⟩ = some u → B ≤ a ∧ NRow B u
/-- What find leaves. -/
structure FD (E : Gr) (s : TS) (gv : Value) (ob : Nat) (w : World) : Prop where
  gi : GI E s.of s.gr
  all : ∀ i, i < E.length → 0 ≤ s.of i
  grs : ∃ pg cg, gv = .slice pg s.gr.length cg ∧ GS w pg s.gr.length s.gr
  of : IT w ob E.length s.of
  grl : s.gr.length ≤ E.length
  new : ∀ p m c, gv = .slice p m c → NG ob w p s.gr.length
def FR (E : Gr) (n : Nat) (w : World) (e : Ending) (w' : World) : Prop := ∃ s gv ob, e = .returned (.tuple #[gv, .slice (some ⟨ob, 0, none⟩) n n]) ∧ FD E s gv ob w' ∧ w.heap.size ≤ ob ∧ Below w.heap.size w w'
theorem FM.found {c : FP} {E : Gr} {s : TS} {ov gv : Value} {w : World} (h : FM c s ov gv w) (hB : TB E s) (hT : TI E s []) (hn : c.n = E.length) (ha : ∀ i, i < E.length → s.num i ≠ 0) : FD E s gv c.ob w := by
  refine ⟨hT.gi, fun i hi => hT.shut hi (ha i hi), ?_, by rw [← hn]; exact h.of, by have := hB.a; have := hB.b; omega, ?_⟩
  rotate_left
  · rintro p m cc rfl k hk a o u rfl hu
    obtain ⟨gs, g1, g2⟩ := h.grp
    have hrob := h.ok.rob.2
    obtain ⟨_, _, e⟩ := own_slice g1
    injection e with _ e2 _
    subst e2
    obtain ⟨gb, hg⟩ := own_ptr g1 (by omega)
    injection hg with hg
    injection hg with e1 e2
    subst e1 e2
    have hlt := (g1.lt a rfl).1
    obtain ⟨a1, o1, c1, arr, q1, q2, q3, q4, q5, q6⟩ := g2 k _ (List.getElem?_eq_getElem hk)
    refine ⟨by omega, ?_⟩
    obtain ⟨a2, o2, he, h5, h6⟩ := (RC.of_own g1).2 (by omega)
    injection he with he; injection he with e1 e2; subst e1 e2
    rw [h6 k _ q1] at hu
    cases hu
    intro p9 n9 c9 h9
    injection h9 with h9
    cases h9
    show c.ob ≤ a1
    omega
  obtain ⟨gs, g1, g2⟩ := h.grp
  obtain ⟨pg, cg, rfl⟩ := own_slice g1
  refine ⟨pg, cg, rfl, rfl, fun k hk => ?_⟩
  obtain ⟨g, rfl⟩ := own_ptr g1 (by omega)
  obtain ⟨a, o, cc, arr, q1, q2, q3, q4, q5, q6⟩ := g2 k _ (List.getElem?_eq_getElem hk)
  obtain ⟨a', o', he, h5, h6⟩ := (RC.of_own g1).2 (by omega)
  injection he with he; injection he with e1 e2; subst e1 e2
  refine ⟨g, 0, _, rfl, h5, h6 k _ q1, some ⟨a, o, none⟩, cc, rfl, q2, by simp [ic_len], fun hl => ⟨a, o, rfl, heap_lt q5, fun j u hu => ?_⟩⟩
  simp [World.cell?, q5, q6 j u hu]
set_option maxHeartbeats 32000000 in
theorem find_any (w : World) (p : Option Addr) (n c : Nat) (E : Gr) (h : GS w p n E) (hs : SmallG E) :
    Calls Try.prog 22 #[.slice p n c] w (FR E n w) := by
  have hn : n ≤ 100000 := by rw [h.len]; exact hs.nodes
  have Hn := Lib.hid h.len
  have H := Lib.hid h; have HS := Lib.hid hs
  clear h hs
  go_enter Try.func22, Try.ntmps22
  go_upto_region 1 with fail
  obtain ⟨wb, hwb⟩ : ∃ wb : World, wb = w := ⟨_, rfl⟩
  have Hwb := Lib.hid hwb
  rw [← hwb]
  clear hwb
  obtain ⟨J, hJd⟩ : ∃ J : (Nat → Prop) → Act → World → Prop, J = fun (D : Nat → Prop) (ac : Act) (w' : World) => ∃ (f : Nat → Nat) (s8 s9 s10 s11 s12 s13 s14 s15 s16 s17 s18 s19 s4 : Value), ac = ⟨((.slice p n c) :: undef :: (.slice none 0 0) :: (.slice none 0 0) :: s4 :: undef :: undef :: undef :: s8 :: s9 :: s10 :: s11 :: s12 :: s13 :: s14 :: s15 :: s16 :: s17 :: s18 :: s19 :: undef :: undef :: undef :: undef :: undef :: undef :: undef :: undef :: undef :: undef :: undef :: undef :: undef :: undef :: undef :: undef :: undef :: undef :: undef :: undef :: undef :: undef :: undef :: undef :: undef :: undef :: undef :: undef :: undef :: undef :: undef :: undef :: undef :: undef :: undef :: undef :: undef :: undef :: undef :: undef :: []).toArray, []⟩ ∧ Below wb.heap.size wb w' ∧ (D 0 → s8 = (.slice p n c)) ∧ (D 1 → s9 = (.slice p n c)) ∧ (D 2 → s10 = (.int .i64 (n : Int))) ∧ (D 3 → MK f wb.heap.size 3 n w' s11) ∧ (D 4 → s12 = (.slice p n c)) ∧ (D 5 → s13 = (.int .i64 (n : Int))) ∧ (D 6 → MK f wb.heap.size 6 n w' s14) ∧ (D 7 → s15 = (.slice p n c)) ∧ (D 8 → s16 = (.int .i64 (n : Int))) ∧ (D 9 → MK f wb.heap.size 9 n w' s17) ∧ (D 10 → s18 = .agg #[s8, s11, s14, s17, .slice none 0 0, .slice none 0 0]) ∧ (D 11 → BX f wb.heap.size 11 w' s18 s19) ∧ (D 12 → s4 = s19) ∧ (D 2 → D 1) ∧ (D 3 → D 2) ∧ (D 5 → D 4) ∧ (D 6 → D 5) ∧ (D 8 → D 7) ∧ (D 9 → D 8) ∧ (D 10 → D 0) ∧ (D 10 → D 3) ∧ (D 10 → D 6) ∧ (D 10 → D 9) ∧ (D 11 → D 10) ∧ (D 12 → D 11) := ⟨_, rfl⟩
  have HJ := Lib.hid hJd; clear hJd
  refine Inv.wp_region_inv J (by kernel_rfl) (by decide +kernel) ?_ ?_ ?_
  · rw [HJ.out]
    exact ⟨fun _ => 0, _, _, _, _, _, _, _, _, _, _, _, _, _, rfl, (Below.refl _ _).drew, fun h => h.elim, fun h => h.elim, fun h => h.elim, fun h => h.elim, fun h => h.elim, fun h => h.elim, fun h => h.elim, fun h => h.elim, fun h => h.elim, fun h => h.elim, fun h => h.elim, fun h => h.elim, fun h => h.elim, fun h => h.elim, fun h => h.elim, fun h => h.elim, fun h => h.elim, fun h => h.elim, fun h => h.elim, fun h => h.elim, fun h => h.elim, fun h => h.elim, fun h => h.elim, fun h => h.elim, fun h => h.elim⟩
  · intro i op hi D ac w' hD hA hJ
    rw [HJ.out] at hJ
    obtain ⟨f, s8, s9, s10, s11, s12, s13, s14, s15, s16, s17, s18, s19, s4, rfl, hb, h0, h1, h2, h3, h4, h5, h6, h7, h8, h9, h10, h11, h12, g2_1, g3_2, g5_4, g6_5, g8_7, g9_8, g10_0, g10_3, g10_6, g10_9, g11_10, g12_11⟩ := hJ
    match i, hi, hA with
    | 0, hi, hA =>
      obtain rfl := Option.some.inj hi
      clear hi
      clear hA
      have H0 := Lib.hid h0; have H1 := Lib.hid h1; have H2 := Lib.hid h2; have H3 := Lib.hid h3; have H4 := Lib.hid h4; have H5 := Lib.hid h5; have H6 := Lib.hid h6; have H7 := Lib.hid h7; have H8 := Lib.hid h8; have H9 := Lib.hid h9; have H10 := Lib.hid h10; have H11 := Lib.hid h11; have H12 := Lib.hid h12; have Hb := Lib.hid hb; have HD := Lib.hid hD; clear hb hD h0 h1 h2 h3 h4 h5 h6 h7 h8 h9 h10 h11 h12
      go_wp2
      rw [HJ.out]
      exact ⟨f, _, _, _, _, _, _, _, _, _, _, _, _, _, rfl, Hb.out, fun _ => rfl, fun h => (H1.out (h.resolve_right (by decide))), fun h => (H2.out (h.resolve_right (by decide))), fun h => (H3.out (h.resolve_right (by decide))), fun h => (H4.out (h.resolve_right (by decide))), fun h => (H5.out (h.resolve_right (by decide))), fun h => (H6.out (h.resolve_right (by decide))), fun h => (H7.out (h.resolve_right (by decide))), fun h => (H8.out (h.resolve_right (by decide))), fun h => (H9.out (h.resolve_right (by decide))), fun h => (HD.out (g10_0 (h.resolve_right (by decide)))).elim, fun h => (H11.out (h.resolve_right (by decide))), fun h => (H12.out (h.resolve_right (by decide))), fun h => .inl (g2_1 (h.resolve_right (by decide))), fun h => .inl (g3_2 (h.resolve_right (by decide))), fun h => .inl (g5_4 (h.resolve_right (by decide))), fun h => .inl (g6_5 (h.resolve_right (by decide))), fun h => .inl (g8_7 (h.resolve_right (by decide))), fun h => .inl (g9_8 (h.resolve_right (by decide))), fun _ => .inr rfl, fun h => .inl (g10_3 (h.resolve_right (by decide))), fun h => .inl (g10_6 (h.resolve_right (by decide))), fun h => .inl (g10_9 (h.resolve_right (by decide))), fun h => .inl (g11_10 (h.resolve_right (by decide))), fun h => .inl (g12_11 (h.resolve_right (by decide)))⟩
    | 1, hi, hA =>
      obtain rfl := Option.some.inj hi
      clear hi
      clear hA
      have H0 := Lib.hid h0; have H1 := Lib.hid h1; have H2 := Lib.hid h2; have H3 := Lib.hid h3; have H4 := Lib.hid h4; have H5 := Lib.hid h5; have H6 := Lib.hid h6; have H7 := Lib.hid h7; have H8 := Lib.hid h8; have H9 := Lib.hid h9; have H10 := Lib.hid h10; have H11 := Lib.hid h11; have H12 := Lib.hid h12; have Hb := Lib.hid hb; have HD := Lib.hid hD; clear hb hD h0 h1 h2 h3 h4 h5 h6 h7 h8 h9 h10 h11 h12
      go_wp2
      rw [HJ.out]
      exact ⟨f, _, _, _, _, _, _, _, _, _, _, _, _, _, rfl, Hb.out, fun h => (H0.out (h.resolve_right (by decide))), fun _ => rfl, fun h => (H2.out (h.resolve_right (by decide))), fun h => (H3.out (h.resolve_right (by decide))), fun h => (H4.out (h.resolve_right (by decide))), fun h => (H5.out (h.resolve_right (by decide))), fun h => (H6.out (h.resolve_right (by decide))), fun h => (H7.out (h.resolve_right (by decide))), fun h => (H8.out (h.resolve_right (by decide))), fun h => (H9.out (h.resolve_right (by decide))), fun h => (H10.out (h.resolve_right (by decide))), fun h => (H11.out (h.resolve_right (by decide))), fun h => (H12.out (h.resolve_right (by decide))), fun _ => .inr rfl, fun h => .inl (g3_2 (h.resolve_right (by decide))), fun h => .inl (g5_4 (h.resolve_right (by decide))), fun h => .inl (g6_5 (h.resolve_right (by decide))), fun h => .inl (g8_7 (h.resolve_right (by decide))), fun h => .inl (g9_8 (h.resolve_right (by decide))), fun h => .inl (g10_0 (h.resolve_right (by decide))), fun h => .inl (g10_3 (h.resolve_right (by decide))), fun h => .inl (g10_6 (h.resolve_right (by decide))), fun h => .inl (g10_9 (h.resolve_right (by decide))), fun h => .inl (g11_10 (h.resolve_right (by decide))), fun h => .inl (g12_11 (h.resolve_right (by decide)))⟩
    | 2, hi, hA =>
      obtain rfl := Option.some.inj hi
      clear hi
      have d1 := after_of hA 1 (by decide +kernel)
      clear hA
      obtain rfl := h1 d1
      have H0 := Lib.hid h0; have H1 := Lib.hid h1; have H2 := Lib.hid h2; have H3 := Lib.hid h3; have H4 := Lib.hid h4; have H5 := Lib.hid h5; have H6 := Lib.hid h6; have H7 := Lib.hid h7; have H8 := Lib.hid h8; have H9 := Lib.hid h9; have H10 := Lib.hid h10; have H11 := Lib.hid h11; have H12 := Lib.hid h12; have Hb := Lib.hid hb; have HD := Lib.hid hD; clear hb hD h0 h1 h2 h3 h4 h5 h6 h7 h8 h9 h10 h11 h12
      go_wp2
      rw [HJ.out]
      exact ⟨f, _, _, _, _, _, _, _, _, _, _, _, _, _, rfl, Hb.out, fun h => (H0.out (h.resolve_right (by decide))), fun _ => rfl, fun _ => rfl, fun h => (H3.out (h.resolve_right (by decide))), fun h => (H4.out (h.resolve_right (by decide))), fun h => (H5.out (h.resolve_right (by decide))), fun h => (H6.out (h.resolve_right (by decide))), fun h => (H7.out (h.resolve_right (by decide))), fun h => (H8.out (h.resolve_right (by decide))), fun h => (H9.out (h.resolve_right (by decide))), fun h => (H10.out (h.resolve_right (by decide))), fun h => (H11.out (h.resolve_right (by decide))), fun h => (H12.out (h.resolve_right (by decide))), fun _ => .inl d1, fun _ => .inr rfl, fun h => .inl (g5_4 (h.resolve_right (by decide))), fun h => .inl (g6_5 (h.resolve_right (by decide))), fun h => .inl (g8_7 (h.resolve_right (by decide))), fun h => .inl (g9_8 (h.resolve_right (by decide))), fun h => .inl (g10_0 (h.resolve_right (by decide))), fun h => .inl (g10_3 (h.resolve_right (by decide))), fun h => .inl (g10_6 (h.resolve_right (by decide))), fun h => .inl (g10_9 (h.resolve_right (by decide))), fun h => .inl (g11_10 (h.resolve_right (by decide))), fun h => .inl (g12_11 (h.resolve_right (by decide)))⟩
    | 3, hi, hA =>
      obtain rfl := Option.some.inj hi
      clear hi
      have d2 := after_of hA 2 (by decide +kernel)
      clear hA
      obtain rfl := h2 d2
      have hmk := fun W => run_make_int n hn W
      have Hq := Lib.hid ((Below.refl w'.heap.size w').alloc (Nat.le_refl _) (.cells (madeCells #[.int .i64 0] n) 3))
      have H0 := Lib.hid h0; have H1 := Lib.hid h1; have H2 := Lib.hid h2; have H3 := Lib.hid h3; have H4 := Lib.hid h4; have H5 := Lib.hid h5; have H6 := Lib.hid h6; have H7 := Lib.hid h7; have H8 := Lib.hid h8; have H9 := Lib.hid h9; have H10 := Lib.hid h10; have H11 := Lib.hid h11; have H12 := Lib.hid h12; have Hb := Lib.hid hb; have HD := Lib.hid hD; clear hb hD h0 h1 h2 h3 h4 h5 h6 h7 h8 h9 h10 h11 h12
      go_wp2
      rw [HJ.out]
      exact ⟨fu f w'.heap.size 3, _, _, _, _, _, _, _, _, _, _, _, _, _, rfl, Hb.out.trans (Hq.out.mono Hb.out.size), fun h => (H0.out (h.resolve_right (by decide))), fun h => (H1.out (h.resolve_right (by decide))), fun _ => rfl, fun _ => MK.new _ _ n Hb.out.size, fun h => (H4.out (h.resolve_right (by decide))), fun h => (H5.out (h.resolve_right (by decide))), fun h => ((H6.out (h.resolve_right (by decide)))).grow Hq.out, fun h => (H7.out (h.resolve_right (by decide))), fun h => (H8.out (h.resolve_right (by decide))), fun h => ((H9.out (h.resolve_right (by decide)))).grow Hq.out, fun h => (HD.out (g10_3 (h.resolve_right (by decide)))).elim, fun h => ((H11.out (h.resolve_right (by decide)))).grow Hq.out, fun h => (H12.out (h.resolve_right (by decide))), fun h => .inl (g2_1 (h.resolve_right (by decide))), fun _ => .inl d2, fun h => .inl (g5_4 (h.resolve_right (by decide))), fun h => .inl (g6_5 (h.resolve_right (by decide))), fun h => .inl (g8_7 (h.resolve_right (by decide))), fun h => .inl (g9_8 (h.resolve_right (by decide))), fun h => .inl (g10_0 (h.resolve_right (by decide))), fun _ => .inr rfl, fun h => .inl (g10_6 (h.resolve_right (by decide))), fun h => .inl (g10_9 (h.resolve_right (by decide))), fun h => .inl (g11_10 (h.resolve_right (by decide))), fun h => .inl (g12_11 (h.resolve_right (by decide)))⟩
    | 4, hi, hA =>
      obtain rfl := Option.some.inj hi
      clear hi
      clear hA
      have H0 := Lib.hid h0; have H1 := Lib.hid h1; have H2 := Lib.hid h2; have H3 := Lib.hid h3; have H4 := Lib.hid h4; have H5 := Lib.hid h5; have H6 := Lib.hid h6; have H7 := Lib.hid h7; have H8 := Lib.hid h8; have H9 := Lib.hid h9; have H10 := Lib.hid h10; have H11 := Lib.hid h11; have H12 := Lib.hid h12; have Hb := Lib.hid hb; have HD := Lib.hid hD; clear hb hD h0 h1 h2 h3 h4 h5 h6 h7 h8 h9 h10 h11 h12
      go_wp2
      rw [HJ.out]
      exact ⟨f, _, _, _, _, _, _, _, _, _, _, _, _, _, rfl, Hb.out, fun h => (H0.out (h.resolve_right (by decide))), fun h => (H1.out (h.resolve_right (by decide))), fun h => (H2.out (h.resolve_right (by decide))), fun h => (H3.out (h.resolve_right (by decide))), fun _ => rfl, fun h => (H5.out (h.resolve_right (by decide))), fun h => (H6.out (h.resolve_right (by decide))), fun h => (H7.out (h.resolve_right (by decide))), fun h => (H8.out (h.resolve_right (by decide))), fun h => (H9.out (h.resolve_right (by decide))), fun h => (H10.out (h.resolve_right (by decide))), fun h => (H11.out (h.resolve_right (by decide))), fun h => (H12.out (h.resolve_right (by decide))), fun h => .inl (g2_1 (h.resolve_right (by decide))), fun h => .inl (g3_2 (h.resolve_right (by decide))), fun _ => .inr rfl, fun h => .inl (g6_5 (h.resolve_right (by decide))), fun h => .inl (g8_7 (h.resolve_right (by decide))), fun h => .inl (g9_8 (h.resolve_right (by decide))), fun h => .inl (g10_0 (h.resolve_right (by decide))), fun h => .inl (g10_3 (h.resolve_right (by decide))), fun h => .inl (g10_6 (h.resolve_right (by decide))), fun h => .inl (g10_9 (h.resolve_right (by decide))), fun h => .inl (g11_10 (h.resolve_right (by decide))), fun h => .inl (g12_11 (h.resolve_right (by decide)))⟩
    | 5, hi, hA =>
      obtain rfl := Option.some.inj hi
      clear hi
      have d4 := after_of hA 4 (by decide +kernel)
      clear hA
      obtain rfl := h4 d4
      have H0 := Lib.hid h0; have H1 := Lib.hid h1; have H2 := Lib.hid h2; have H3 := Lib.hid h3; have H4 := Lib.hid h4; have H5 := Lib.hid h5; have H6 := Lib.hid h6; have H7 := Lib.hid h7; have H8 := Lib.hid h8; have H9 := Lib.hid h9; have H10 := Lib.hid h10; have H11 := Lib.hid h11; have H12 := Lib.hid h12; have Hb := Lib.hid hb; have HD := Lib.hid hD; clear hb hD h0 h1 h2 h3 h4 h5 h6 h7 h8 h9 h10 h11 h12
      go_wp2
      rw [HJ.out]
      exact ⟨f, _, _, _, _, _, _, _, _, _, _, _, _, _, rfl, Hb.out, fun h => (H0.out (h.resolve_right (by decide))), fun h => (H1.out (h.resolve_right (by decide))), fun h => (H2.out (h.resolve_right (by decide))), fun h => (H3.out (h.resolve_right (by decide))), fun _ => rfl, fun _ => rfl, fun h => (H6.out (h.resolve_right (by decide))), fun h => (H7.out (h.resolve_right (by decide))), fun h => (H8.out (h.resolve_right (by decide))), fun h => (H9.out (h.resolve_right (by decide))), fun h => (H10.out (h.resolve_right (by decide))), fun h => (H11.out (h.resolve_right (by decide))), fun h => (H12.out (h.resolve_right (by decide))), fun h => .inl (g2_1 (h.resolve_right (by decide))), fun h => .inl (g3_2 (h.resolve_right (by decide))), fun _ => .inl d4, fun _ => .inr rfl, fun h => .inl (g8_7 (h.resolve_right (by decide))), fun h => .inl (g9_8 (h.resolve_right (by decide))), fun h => .inl (g10_0 (h.resolve_right (by decide))), fun h => .inl (g10_3 (h.resolve_right (by decide))), fun h => .inl (g10_6 (h.resolve_right (by decide))), fun h => .inl (g10_9 (h.resolve_right (by decide))), fun h => .inl (g11_10 (h.resolve_right (by decide))), fun h => .inl (g12_11 (h.resolve_right (by decide)))⟩
    | 6, hi, hA =>
      obtain rfl := Option.some.inj hi
      clear hi
      have d5 := after_of hA 5 (by decide +kernel)
      clear hA
      obtain rfl := h5 d5
      have hmk := fun W => run_make_int n hn W
      have Hq := Lib.hid ((Below.refl w'.heap.size w').alloc (Nat.le_refl _) (.cells (madeCells #[.int .i64 0] n) 3))
      have H0 := Lib.hid h0; have H1 := Lib.hid h1; have H2 := Lib.hid h2; have H3 := Lib.hid h3; have H4 := Lib.hid h4; have H5 := Lib.hid h5; have H6 := Lib.hid h6; have H7 := Lib.hid h7; have H8 := Lib.hid h8; have H9 := Lib.hid h9; have H10 := Lib.hid h10; have H11 := Lib.hid h11; have H12 := Lib.hid h12; have Hb := Lib.hid hb; have HD := Lib.hid hD; clear hb hD h0 h1 h2 h3 h4 h5 h6 h7 h8 h9 h10 h11 h12
      go_wp2
      rw [HJ.out]
      exact ⟨fu f w'.heap.size 6, _, _, _, _, _, _, _, _, _, _, _, _, _, rfl, Hb.out.trans (Hq.out.mono Hb.out.size), fun h => (H0.out (h.resolve_right (by decide))), fun h => (H1.out (h.resolve_right (by decide))), fun h => (H2.out (h.resolve_right (by decide))), fun h => ((H3.out (h.resolve_right (by decide)))).grow Hq.out, fun h => (H4.out (h.resolve_right (by decide))), fun _ => rfl, fun _ => MK.new _ _ n Hb.out.size, fun h => (H7.out (h.resolve_right (by decide))), fun h => (H8.out (h.resolve_right (by decide))), fun h => ((H9.out (h.resolve_right (by decide)))).grow Hq.out, fun h => (HD.out (g10_6 (h.resolve_right (by decide)))).elim, fun h => ((H11.out (h.resolve_right (by decide)))).grow Hq.out, fun h => (H12.out (h.resolve_right (by decide))), fun h => .inl (g2_1 (h.resolve_right (by decide))), fun h => .inl (g3_2 (h.resolve_right (by decide))), fun h => .inl (g5_4 (h.resolve_right (by decide))), fun _ => .inl d5, fun h => .inl (g8_7 (h.resolve_right (by decide))), fun h => .inl (g9_8 (h.resolve_right (by decide))), fun h => .inl (g10_0 (h.resolve_right (by decide))), fun h => .inl (g10_3 (h.resolve_right (by decide))), fun _ => .inr rfl, fun h => .inl (g10_9 (h.resolve_right (by decide))), fun h => .inl (g11_10 (h.resolve_right (by decide))), fun h => .inl (g12_11 (h.resolve_right (by decide)))⟩
    | 7, hi, hA =>
      obtain rfl := Option.some.inj hi
      clear hi
      clear hA
      have H0 := Lib.hid h0; have H1 := Lib.hid h1; have H2 := Lib.hid h2; have H3 := Lib.hid h3; have H4 := Lib.hid h4; have H5 := Lib.hid h5; have H6 := Lib.hid h6; have H7 := Lib.hid h7; have H8 := Lib.hid h8; have H9 := Lib.hid h9; have H10 := Lib.hid h10; have H11 := Lib.hid h11; have H12 := Lib.hid h12; have Hb := Lib.hid hb; have HD := Lib.hid hD; clear hb hD h0 h1 h2 h3 h4 h5 h6 h7 h8 h9 h10 h11 h12
      go_wp2
      rw [HJ.out]
      exact ⟨f, _, _, _, _, _, _, _, _, _, _, _, _, _, rfl, Hb.out, fun h => (H0.out (h.resolve_right (by decide))), fun h => (H1.out (h.resolve_right (by decide))), fun h => (H2.out (h.resolve_right (by decide))), fun h => (H3.out (h.resolve_right (by decide))), fun h => (H4.out (h.resolve_right (by decide))), fun h => (H5.out (h.resolve_right (by decide))), fun h => (H6.out (h.resolve_right (by decide))), fun _ => rfl, fun h => (H8.out (h.resolve_right (by decide))), fun h => (H9.out (h.resolve_right (by decide))), fun h => (H10.out (h.resolve_right (by decide))), fun h => (H11.out (h.resolve_right (by decide))), fun h => (H12.out (h.resolve_right (by decide))), fun h => .inl (g2_1 (h.resolve_right (by decide))), fun h => .inl (g3_2 (h.resolve_right (by decide))), fun h => .inl (g5_4 (h.resolve_right (by decide))), fun h => .inl (g6_5 (h.resolve_right (by decide))), fun _ => .inr rfl, fun h => .inl (g9_8 (h.resolve_right (by decide))), fun h => .inl (g10_0 (h.resolve_right (by decide))), fun h => .inl (g10_3 (h.resolve_right (by decide))), fun h => .inl (g10_6 (h.resolve_right (by decide))), fun h => .inl (g10_9 (h.resolve_right (by decide))), fun h => .inl (g11_10 (h.resolve_right (by decide))), fun h => .inl (g12_11 (h.resolve_right (by decide)))⟩
    | 8, hi, hA =>
      obtain rfl := Option.some.inj hi
      clear hi
      have d7 := after_of hA 7 (by decide +kernel)
      clear hA
      obtain rfl := h7 d7
      have H0 := Lib.hid h0; have H1 := Lib.hid h1; have H2 := Lib.hid h2; have H3 := Lib.hid h3; have H4 := Lib.hid h4; have H5 := Lib.hid h5; have H6 := Lib.hid h6; have H7 := Lib.hid h7; have H8 := Lib.hid h8; have H9 := Lib.hid h9; have H10 := Lib.hid h10; have H11 := Lib.hid h11; have H12 := Lib.hid h12; have Hb := Lib.hid hb; have HD := Lib.hid hD; clear hb hD h0 h1 h2 h3 h4 h5 h6 h7 h8 h9 h10 h11 h12
      go_wp2
      rw [HJ.out]
      exact ⟨f, _, _, _, _, _, _, _, _, _, _, _, _, _, rfl, Hb.out, fun h => (H0.out (h.resolve_right (by decide))), fun h => (H1.out (h.resolve_right (by decide))), fun h => (H2.out (h.resolve_right (by decide))), fun h => (H3.out (h.resolve_right (by decide))), fun h => (H4.out (h.resolve_right (by decide))), fun h => (H5.out (h.resolve_right (by decide))), fun h => (H6.out (h.resolve_right (by decide))), fun _ => rfl, fun _ => rfl, fun h => (H9.out (h.resolve_right (by decide))), fun h => (H10.out (h.resolve_right (by decide))), fun h => (H11.out (h.resolve_right (by decide))), fun h => (H12.out (h.resolve_right (by decide))), fun h => .inl (g2_1 (h.resolve_right (by decide))), fun h => .inl (g3_2 (h.resolve_right (by decide))), fun h => .inl (g5_4 (h.resolve_right (by decide))), fun h => .inl (g6_5 (h.resolve_right (by decide))), fun _ => .inl d7, fun _ => .inr rfl, fun h => .inl (g10_0 (h.resolve_right (by decide))), fun h => .inl (g10_3 (h.resolve_right (by decide))), fun h => .inl (g10_6 (h.resolve_right (by decide))), fun h => .inl (g10_9 (h.resolve_right (by decide))), fun h => .inl (g11_10 (h.resolve_right (by decide))), fun h => .inl (g12_11 (h.resolve_right (by decide)))⟩
    | 9, hi, hA =>
      obtain rfl := Option.some.inj hi
      clear hi
      have d8 := after_of hA 8 (by decide +kernel)
      clear hA
      obtain rfl := h8 d8
      have hmk := fun W => run_make_int n hn W
      have Hq := Lib.hid ((Below.refl w'.heap.size w').alloc (Nat.le_refl _) (.cells (madeCells #[.int .i64 0] n) 3))
      have H0 := Lib.hid h0; have H1 := Lib.hid h1; have H2 := Lib.hid h2; have H3 := Lib.hid h3; have H4 := Lib.hid h4; have H5 := Lib.hid h5; have H6 := Lib.hid h6; have H7 := Lib.hid h7; have H8 := Lib.hid h8; have H9 := Lib.hid h9; have H10 := Lib.hid h10; have H11 := Lib.hid h11; have H12 := Lib.hid h12; have Hb := Lib.hid hb; have HD := Lib.hid hD; clear hb hD h0 h1 h2 h3 h4 h5 h6 h7 h8 h9 h10 h11 h12
      go_wp2
      rw [HJ.out]
      exact ⟨fu f w'.heap.size 9, _, _, _, _, _, _, _, _, _, _, _, _, _, rfl, Hb.out.trans (Hq.out.mono Hb.out.size), fun h => (H0.out (h.resolve_right (by decide))), fun h => (H1.out (h.resolve_right (by decide))), fun h => (H2.out (h.resolve_right (by decide))), fun h => ((H3.out (h.resolve_right (by decide)))).grow Hq.out, fun h => (H4.out (h.resolve_right (by decide))), fun h => (H5.out (h.resolve_right (by decide))), fun h => ((H6.out (h.resolve_right (by decide)))).grow Hq.out, fun h => (H7.out (h.resolve_right (by decide))), fun _ => rfl, fun _ => MK.new _ _ n Hb.out.size, fun h => (HD.out (g10_9 (h.resolve_right (by decide)))).elim, fun h => ((H11.out (h.resolve_right (by decide)))).grow Hq.out, fun h => (H12.out (h.resolve_right (by decide))), fun h => .inl (g2_1 (h.resolve_right (by decide))), fun h => .inl (g3_2 (h.resolve_right (by decide))), fun h => .inl (g5_4 (h.resolve_right (by decide))), fun h => .inl (g6_5 (h.resolve_right (by decide))), fun h => .inl (g8_7 (h.resolve_right (by decide))), fun _ => .inl d8, fun h => .inl (g10_0 (h.resolve_right (by decide))), fun h => .inl (g10_3 (h.resolve_right (by decide))), fun h => .inl (g10_6 (h.resolve_right (by decide))), fun _ => .inr rfl, fun h => .inl (g11_10 (h.resolve_right (by decide))), fun h => .inl (g12_11 (h.resolve_right (by decide)))⟩
    | 10, hi, hA =>
      obtain rfl := Option.some.inj hi
      clear hi
      have d0 := after_of hA 0 (by decide +kernel)
      have d3 := after_of hA 3 (by decide +kernel)
      have d6 := after_of hA 6 (by decide +kernel)
      have d9 := after_of hA 9 (by decide +kernel)
      clear hA
      obtain ⟨b3, rfl, q31, q32, q33⟩ := h3 d3
      obtain ⟨b6, rfl, q61, q62, q63⟩ := h6 d6
      obtain ⟨b9, rfl, q91, q92, q93⟩ := h9 d9
      obtain rfl := h0 d0
      have K3 := Lib.hid (show MK f wb.heap.size 3 n w' _ from ⟨b3, rfl, q31, q32, q33⟩)
      have K6 := Lib.hid (show MK f wb.heap.size 6 n w' _ from ⟨b6, rfl, q61, q62, q63⟩)
      have K9 := Lib.hid (show MK f wb.heap.size 9 n w' _ from ⟨b9, rfl, q91, q92, q93⟩)
      clear q31 q32 q33 q61 q62 q63 q91 q92 q93
      have H0 := Lib.hid h0; have H1 := Lib.hid h1; have H2 := Lib.hid h2; have H3 := Lib.hid h3; have H4 := Lib.hid h4; have H5 := Lib.hid h5; have H6 := Lib.hid h6; have H7 := Lib.hid h7; have H8 := Lib.hid h8; have H9 := Lib.hid h9; have H10 := Lib.hid h10; have H11 := Lib.hid h11; have H12 := Lib.hid h12; have Hb := Lib.hid hb; have HD := Lib.hid hD; clear hb hD h0 h1 h2 h3 h4 h5 h6 h7 h8 h9 h10 h11 h12
      go_wp2
      rw [HJ.out]
      exact ⟨f, _, _, _, _, _, _, _, _, _, _, _, _, _, rfl, Hb.out, fun _ => rfl, fun h => (H1.out (h.resolve_right (by decide))), fun h => (H2.out (h.resolve_right (by decide))), fun h => (H3.out (h.resolve_right (by decide))), fun h => (H4.out (h.resolve_right (by decide))), fun h => (H5.out (h.resolve_right (by decide))), fun h => (H6.out (h.resolve_right (by decide))), fun h => (H7.out (h.resolve_right (by decide))), fun h => (H8.out (h.resolve_right (by decide))), fun h => (H9.out (h.resolve_right (by decide))), fun _ => rfl, fun h => (HD.out (g11_10 (h.resolve_right (by decide)))).elim, fun h => (H12.out (h.resolve_right (by decide))), fun h => .inl (g2_1 (h.resolve_right (by decide))), fun h => .inl (g3_2 (h.resolve_right (by decide))), fun h => .inl (g5_4 (h.resolve_right (by decide))), fun h => .inl (g6_5 (h.resolve_right (by decide))), fun h => .inl (g8_7 (h.resolve_right (by decide))), fun h => .inl (g9_8 (h.resolve_right (by decide))), fun _ => .inl d0, fun _ => .inl d3, fun _ => .inl d6, fun _ => .inl d9, fun _ => .inr rfl, fun h => .inl (g12_11 (h.resolve_right (by decide)))⟩
    | 11, hi, hA =>
      obtain rfl := Option.some.inj hi
      clear hi
      have d10 := after_of hA 10 (by decide +kernel)
      clear hA
      have hs := h10 d10
      subst hs
      have Hq := Lib.hid ((Below.refl w'.heap.size w').alloc (Nat.le_refl _) (.cells #[s8, s11, s14, s17, .slice none 0 0, .slice none 0 0] 57))
      have H0 := Lib.hid h0; have H1 := Lib.hid h1; have H2 := Lib.hid h2; have H3 := Lib.hid h3; have H4 := Lib.hid h4; have H5 := Lib.hid h5; have H6 := Lib.hid h6; have H7 := Lib.hid h7; have H8 := Lib.hid h8; have H9 := Lib.hid h9; have H10 := Lib.hid h10; have H11 := Lib.hid h11; have H12 := Lib.hid h12; have Hb := Lib.hid hb; have HD := Lib.hid hD; clear hb hD h0 h1 h2 h3 h4 h5 h6 h7 h8 h9 h10 h11 h12
      go_wp2
      rw [HJ.out]
      exact ⟨fu f w'.heap.size 11, _, _, _, _, _, _, _, _, _, _, _, _, _, rfl, Hb.out.trans (Hq.out.mono Hb.out.size), fun h => (H0.out (h.resolve_right (by decide))), fun h => (H1.out (h.resolve_right (by decide))), fun h => (H2.out (h.resolve_right (by decide))), fun h => ((H3.out (h.resolve_right (by decide)))).grow Hq.out, fun h => (H4.out (h.resolve_right (by decide))), fun h => (H5.out (h.resolve_right (by decide))), fun h => ((H6.out (h.resolve_right (by decide)))).grow Hq.out, fun h => (H7.out (h.resolve_right (by decide))), fun h => (H8.out (h.resolve_right (by decide))), fun h => ((H9.out (h.resolve_right (by decide)))).grow Hq.out, fun _ => rfl, fun _ => BX.new _ _ Hb.out.size, fun h => (HD.out (g12_11 (h.resolve_right (by decide)))).elim, fun h => .inl (g2_1 (h.resolve_right (by decide))), fun h => .inl (g3_2 (h.resolve_right (by decide))), fun h => .inl (g5_4 (h.resolve_right (by decide))), fun h => .inl (g6_5 (h.resolve_right (by decide))), fun h => .inl (g8_7 (h.resolve_right (by decide))), fun h => .inl (g9_8 (h.resolve_right (by decide))), fun h => .inl (g10_0 (h.resolve_right (by decide))), fun h => .inl (g10_3 (h.resolve_right (by decide))), fun h => .inl (g10_6 (h.resolve_right (by decide))), fun h => .inl (g10_9 (h.resolve_right (by decide))), fun _ => .inl d10, fun _ => .inr rfl⟩
    | 12, hi, hA =>
      obtain rfl := Option.some.inj hi
      clear hi
      have d11 := after_of hA 11 (by decide +kernel)
      clear hA
      obtain ⟨b11, rfl, q1, q2, q3⟩ := h11 d11
      have K11 := Lib.hid (show BX f wb.heap.size 11 w' s18 _ from ⟨b11, rfl, q1, q2, q3⟩)
      clear q1 q2 q3
      have H0 := Lib.hid h0; have H1 := Lib.hid h1; have H2 := Lib.hid h2; have H3 := Lib.hid h3; have H4 := Lib.hid h4; have H5 := Lib.hid h5; have H6 := Lib.hid h6; have H7 := Lib.hid h7; have H8 := Lib.hid h8; have H9 := Lib.hid h9; have H10 := Lib.hid h10; have H11 := Lib.hid h11; have H12 := Lib.hid h12; have Hb := Lib.hid hb; have HD := Lib.hid hD; clear hb hD h0 h1 h2 h3 h4 h5 h6 h7 h8 h9 h10 h11 h12
      go_wp2
      rw [HJ.out]
      exact ⟨f, _, _, _, _, _, _, _, _, _, _, _, _, _, rfl, Hb.out, fun h => (H0.out (h.resolve_right (by decide))), fun h => (H1.out (h.resolve_right (by decide))), fun h => (H2.out (h.resolve_right (by decide))), fun h => (H3.out (h.resolve_right (by decide))), fun h => (H4.out (h.resolve_right (by decide))), fun h => (H5.out (h.resolve_right (by decide))), fun h => (H6.out (h.resolve_right (by decide))), fun h => (H7.out (h.resolve_right (by decide))), fun h => (H8.out (h.resolve_right (by decide))), fun h => (H9.out (h.resolve_right (by decide))), fun h => (H10.out (h.resolve_right (by decide))), fun h => (H11.out (h.resolve_right (by decide))), fun _ => rfl, fun h => .inl (g2_1 (h.resolve_right (by decide))), fun h => .inl (g3_2 (h.resolve_right (by decide))), fun h => .inl (g5_4 (h.resolve_right (by decide))), fun h => .inl (g6_5 (h.resolve_right (by decide))), fun h => .inl (g8_7 (h.resolve_right (by decide))), fun h => .inl (g9_8 (h.resolve_right (by decide))), fun h => .inl (g10_0 (h.resolve_right (by decide))), fun h => .inl (g10_3 (h.resolve_right (by decide))), fun h => .inl (g10_6 (h.resolve_right (by decide))), fun h => .inl (g10_9 (h.resolve_right (by decide))), fun h => .inl (g11_10 (h.resolve_right (by decide))), fun _ => .inl d11⟩
    | n + 13, hi, hA => cases hi
  · intro D ac w' hall hJ
    rw [HJ.out] at hJ
    obtain ⟨f, s8, s9, s10, s11, s12, s13, s14, s15, s16, s17, s18, s19, s4, rfl, hb, h0, h1, h2, h3, h4, h5, h6, h7, h8, h9, h10, h11, h12, g2_1, g3_2, g5_4, g6_5, g8_7, g9_8, g10_0, g10_3, g10_6, g10_9, g11_10, g12_11⟩ := hJ
    have hd : ∀ i, i < 13 → D i := hall
    clear hall
    obtain ⟨b3, rfl, q31, q32, q33⟩ := h3 (hd 3 (by decide))
    obtain ⟨b6, rfl, q61, q62, q63⟩ := h6 (hd 6 (by decide))
    obtain ⟨b9, rfl, q91, q92, q93⟩ := h9 (hd 9 (by decide))
    obtain rfl := h0 (hd 0 (by decide))
    have e10 := h10 (hd 10 (by decide))
    subst e10
    obtain ⟨fb, hfb, q111, q112, cs, hcs, q113⟩ := h11 (hd 11 (by decide))
    injection hcs with hcs
    subst hcs
    have e12 := h12 (hd 12 (by decide))
    subst e12 hfb
    have n36 : b3 ≠ b6 := fun e => by rw [e, q62] at q32; cases q32
    have n39 : b3 ≠ b9 := fun e => by rw [e, q92] at q32; cases q32
    have n69 : b6 ≠ b9 := fun e => by rw [e, q92] at q62; cases q62
    have m3 : fb ≠ b3 := fun e => by rw [e, q32] at q112; cases q112
    have m6 : fb ≠ b6 := fun e => by rw [e, q62] at q112; cases q112
    have m9 : fb ≠ b9 := fun e => by rw [e, q92] at q112; cases q112
    have Hb := Lib.hid hb; have I3 := Lib.hid q33; have I6 := Lib.hid q63; have I9 := Lib.hid q93; have Q := Lib.hid q113
    have N36 := Lib.hid n36; have N39 := Lib.hid n39; have N69 := Lib.hid n69; have M3 := Lib.hid m3; have M6 := Lib.hid m6; have M9 := Lib.hid m9
    have R3 := Lib.hid q31; have R6 := Lib.hid q61; have R9 := Lib.hid q91; have RF := Lib.hid q111
    obtain rfl : wb = w := Hwb.out
    clear hb q31 q32 q33 q61 q62 q63 q91 q92 q93 q111 q112 q113 n36 n39 n69 m3 m6 m9 h0 h1 h2 h3 h4 h5 h6 h7 h8 h9 h10 h11 h12 hd HJ Hwb
    clear g2_1 g3_2 g5_4 g6_5 g8_7 g9_8 g10_0 g10_3 g10_6 g10_9 g11_10 g12_11
    obtain ⟨w1, hw1⟩ : ∃ w1 : World, w1 = w' := ⟨_, rfl⟩
    subst hw1
    obtain ⟨-, ⟨x3, -, -⟩, -⟩ := cells6 Q.out
    go_wp2
    go_loopw [25] (fun k wr => ∃ m : Nat, k = .int .i64 m ∧ m ≤ n ∧ IT wr b9 n (fun q => if q < m then -1 else 0) ∧ Tch b9 w1 wr) (fun k _ => n - (intOf k).toNat)
    case atStart => exact ⟨0, rfl, by omega, I9.out.congr fun q _ => by simp, (by obtain ⟨tc, h1, _⟩ := I9.out.ex; exact ⟨_, Upd.refl h1⟩)⟩
    case round =>
      obtain ⟨m, rfl, hm, hI, hT⟩ := hrel
      have HI := Lib.hid hI; have HT := Lib.hid hT
      have hQ : wr.heap[fb]? = some (.cells #[.slice p n c, .slice (some ⟨b3, 0, none⟩) n n, .slice (some ⟨b6, 0, none⟩) n n, .slice (some ⟨b9, 0, none⟩) n n, .slice none 0 0, .slice none 0 0] 57) := by
        obtain ⟨o, hu⟩ := hT
        exact (hu.other _ M9.out).trans Q.out
      have HQ := Lib.hid hQ
      obtain ⟨-, ⟨x3, -, -⟩, -⟩ := cells6 hQ
      clear hI hT hQ
      by_cases hlt : m < n
      · have z1 := HI.out.cell hlt
        have z2 := HI.out.free m
        have Hset := Lib.hid (HI.out.set hlt (-1))
        go_wp2
        refine ⟨⟨m + 1, by go_num, by omega, Hset.out.1.congr fun q _ => ?_, HT.out.trans Hset.out.2⟩, by simp [intOf]; omega⟩
        by_cases e : q = m
        · subst e; simp
        · by_cases e2 : q < m
          · simp [e, e2, show q < m + 1 by omega]
          · simp [e, e2, show ¬ q < m + 1 by omega]
      · obtain rfl : m = n := by omega
        obtain ⟨w2, hw2⟩ : ∃ w2 : World, w2 = wr := ⟨_, rfl⟩
        subst hw2
        go_upto_region 8 with fail
        have hstart : ∃ cc : FP, cc.p = p ∧ cc.n = m ∧ cc.cp = c ∧ cc.fb = fb ∧ cc.nb = b3 ∧ cc.lb = b6 ∧ cc.ob = b9 ∧ cc.cb = w2.heap.size ∧ cc.H = wb.heap.size ∧ FM cc TS.init (.slice none 0 0) (.slice none 0 0) (w2.alloc (.cells #[.int .i64 0] 3)) := by
          have b4 : Below w2.heap.size w2 (w2.alloc (.cells #[.int .i64 0] 3)) := (Below.refl _ _).alloc (Nat.le_refl _) _
          have n4 := heap_alloc_new w2 (.cells #[.int .i64 0] 3)
          have hs4 : (w2.alloc (.cells #[.int .i64 0] 3)).heap.size = w2.heap.size + 1 := by simp
          obtain ⟨o, hu⟩ := HT.out
          have l3 := I3.out.lt
          have l6 := I6.out.lt
          have l9 := I9.out.lt
          have lf := heap_lt Q.out
          have hz := hu.size
          have hbz := Hb.out.size
          have i3 := (I3.out.at (hu.other _ N39.out)).below b4
          have i6 := (I6.out.at (hu.other _ N69.out)).below b4
          have i9 := HI.out.below b4
          have r3 := R3.out
          have r6 := R6.out
          have r9 := R9.out
          have rf := RF.out
          refine ⟨⟨p, m, c, wb.heap.size, w2.heap.size + 1, fb, b3, b6, b9, w2.heap.size⟩, rfl, rfl, rfl, rfl, rfl, rfl, rfl, rfl, rfl, ⟨⟨hn, ⟨rf, ?_⟩, ⟨r3, ?_⟩, ⟨r6, ?_⟩, ⟨r9, ?_⟩, ⟨?_, ?_⟩, ⟨M3.out, M6.out, M9.out, ?_⟩, ⟨N36.out, N39.out, ?_⟩, ⟨N69.out, ?_, ?_⟩⟩, ?_, (b4.block _ (heap_lt HQ.out)).trans HQ.out, i3, i6, i9.congr fun q hq => by simp [TS.init]; exact hq, n4, World.ownsRow_nil _ _ _ _, [], World.ownsRow_nil _ _ _ _, fun g G hg => by simp [TS.init] at hg⟩⟩ <;> dsimp only <;> omega
        obtain ⟨cc, rfl, rfl, rfl, rfl, rfl, rfl, rfl, hcb, hcH, hF0⟩ := hstart
        rw [← hcb]
        have HF0 := Lib.hid hF0
        have HcH := Lib.hid hcH
        have hb03 : Below wb.heap.size wb (w2.alloc (.cells #[.int .i64 0] 3)) := (Hb.out.trans (HT.out.below R9.out)).trans (((Below.refl w2.heap.size w2).alloc (Nat.le_refl _) _).mono (by obtain ⟨o, hu⟩ := HT.out; rw [hu.size]; exact Hb.out.size))
        have Hb03 := Lib.hid hb03
        clear hcb hcH hF0 hb03
        generalize w2.alloc (.cells #[.int .i64 0] 3) = w3 at *
        go_wp2
        go_loopw [37] (fun k wr => ∃ (i : Nat) (s : TS) (ov gv : Value), k = .int .i64 i ∧ i ≤ cc.n ∧ FM cc s ov gv wr ∧ TI E s [] ∧ TB E s ∧ (∀ v, v < i → s.num v ≠ 0) ∧ KP cc w3 wr) (fun k _ => cc.n - (intOf k).toNat)
        case atStart => exact ⟨0, TS.init, _, _, rfl, Nat.zero_le _, HF0.out, TI.start E, TB.start E, fun v hv => by omega, KP.refl _ _⟩
        case round =>
          obtain ⟨i, s, ov, gv, rfl, hi, hF, hTI, hTB, hnum, hK⟩ := hrel
          have HF := Lib.hid hF; have HTI := Lib.hid hTI; have HTB := Lib.hid hTB; have Hnum := Lib.hid hnum; have HK := Lib.hid hK
          obtain ⟨⟨-, x1, -⟩, ⟨x3, -, x5⟩, -⟩ := cells6 hF.blk
          clear hF hTI hTB hnum hK
          by_cases hlt : i < cc.n
          · have r1 := HF.out.num.cell hlt
            unfold nI at r1
            have hlE : i < E.length := by rw [← Hn.out]; exact hlt
            have HlE := Lib.hid hlE
            clear x3 x5 hlE
            by_cases h0 : s.num i = 0
            · have d0 : ((s.num i : Int) == 0) = true := by simp [h0]
              have d0' : (s.num i == 0) = true := by simp [h0]
              have HVC := Lib.hid (show VC wb cc E wr from ⟨H.out, HS.out, Hb03.out.trans (HK.out.below.mono (by rw [HcH.out]; exact Nat.le_refl _)), by rw [HcH.out]; exact Nat.le_refl _⟩)
              have Hvis := Lib.hid (visit_any wb cc E s ov gv i wr HVC.out HF.out HTI.out HTB.out HlE.out h0)
              clear h0
              go_wp2_with (go_at_call 35; refine Hvis.out.mono ?_; rintro e w5 ⟨s5, ov5, gv5, rfl, g1, g2, g3, g4, g5, g6⟩; have G1 := Lib.hid g1; have G2 := Lib.hid g2; have G3 := Lib.hid g3; have G4 := Lib.hid g4; have G5 := Lib.hid g5; have G6 := Lib.hid g6; clear g1 g2 g3 g4 g5 g6)
              exact ⟨⟨i + 1, s5, ov5, gv5, by go_num, by omega, G1.out, G2.out, G3.out, fun v hv => by
                rcases Nat.lt_or_ge v i with h | h
                · exact G4.out v (Hnum.out v h)
                · have : v = i := by omega
                  subst this; exact G5.out, HK.out.trans G6.out⟩, by simp [intOf]; omega⟩
            · have d0 : ((s.num i : Int) == 0) = false := by rw [beq_eq_false_iff_ne]; omega
              have d0' : (s.num i == 0) = false := by rw [beq_eq_false_iff_ne]; exact h0
              have H0 := Lib.hid h0; clear h0
              go_wp2
              exact ⟨⟨i + 1, s, ov, gv, by go_num, by omega, HF.out, HTI.out, HTB.out, fun v hv => by
                rcases Nat.lt_or_ge v i with h | h
                · exact Hnum.out v h
                · have : v = i := by omega
                  subst this; exact H0.out, HK.out⟩, by simp [intOf]; omega⟩
          · have hic : i = cc.n := by omega
            have Hic := Lib.hid hic
            have hd : decide (i < cc.n) = false := by simp; omega
            clear hic x1
            go_wp2_with (first
              | ((with_reducible refine Lex.at_region ?_); with_reducible refine Lex.wp_region_lex (by kernel_rfl) (by decide +kernel) ?_)
              | ((with_reducible refine Lex.at_fin ?_); with_reducible refine Lex.fin_on (by kernel_rfl) ?_))
            go_ret2
            have hfd := HF.out.found HTB.out HTI.out Hn.out (fun v hv => Hnum.out v (by rw [Hic.out, Hn.out]; exact hv))
            refine ⟨s, gv, cc.ob, rfl, ?_, R9.out, (Hb03.out.trans (HK.out.below.mono (by rw [HcH.out]; exact Nat.le_refl _))).drew⟩
            obtain ⟨pg, cg, e1, e2⟩ := hfd.grs
            exact ⟨hfd.gi, hfd.all, ⟨pg, cg, e1, e2.below ((Below.refl _ _).drew)⟩, hfd.of.at rfl, hfd.grl, hfd.new⟩
end Go.Proofs.Yteejlibiidiibaa
