/-
  Walks: the law of the order.
-/
import Derived.Test.YtejiagmfinhjbaaDoorIn
import Derived.Test.YtejiagmfinhjbaaDoorLexK
namespace Go.Proofs.YtejiagmfinhjbaaDoor
open Go.RowKit Go.Ident

/-- The three boxes. -/
structure Tri (B : Nat) (k1 : Int) (t1 : ByteArray) (k2 : Int) (t2 : ByteArray) (k3 : Int) (t3 : ByteArray) (w : World) : Prop where
  a : Blk B k1 t1 w
  b : Blk (B + 1) k2 t2 w
  c : Blk (B + 2) k3 t3 w
theorem Tri.below {B : Nat} {k1 k2 k3 : Int} {t1 t2 t3 : ByteArray} {w w2 : World} (h : Tri B k1 t1 k2 t2 k3 t3 w) (hb : Below w.heap.size w w2) : Tri B k1 t1 k2 t2 k3 t3 w2 := ⟨h.a.below hb, h.b.below hb, h.c.below hb⟩
theorem Tri.drew {B : Nat} {k1 k2 k3 : Int} {t1 t2 t3 : ByteArray} {w : World} (h : Tri B k1 t1 k2 t2 k3 t3 w) : Tri B k1 t1 k2 t2 k3 t3 w.drew := ⟨h.a, h.b, h.c⟩
theorem Tri.start (w : World) (k1 : Int) (t1 : ByteArray) (k2 : Int) (t2 : ByteArray) (k3 : Int) (t3 : ByteArray) : Tri w.heap.size k1 t1 k2 t2 k3 t3 (((w.alloc (.cells #[.int .i64 k1, .string t1] 23)).alloc (.cells #[.int .i64 k2, .string t2] 23)).alloc (.cells #[.int .i64 k3, .string t3] 23)) := by
  have h1 : (w.alloc (.cells #[.int .i64 k1, .string t1] 23)).heap.size = w.heap.size + 1 := by simp
  have h2 : ((w.alloc (.cells #[.int .i64 k1, .string t1] 23)).alloc (.cells #[.int .i64 k2, .string t2] 23)).heap.size = w.heap.size + 2 := by simp
  refine ⟨((Blk.new w k1 t1).alloc _).alloc _, ?_, ?_⟩
  · have := (Blk.new (w.alloc (.cells #[.int .i64 k1, .string t1] 23)) k2 t2).alloc (.cells #[.int .i64 k3, .string t3] 23)
    rw [h1] at this; exact this
  · have := Blk.new ((w.alloc (.cells #[.int .i64 k1, .string t1] 23)).alloc (.cells #[.int .i64 k2, .string t2] 23)) k3 t3
    rw [h2] at this; exact this
theorem Tri.cells {B : Nat} {k1 k2 k3 : Int} {t1 t2 t3 : ByteArray} {w : World} (h : Tri B k1 t1 k2 t2 k3 t3 w) :
    w.cell? ⟨B, 0, none⟩ = some (.int .i64 k1) ∧ w.cell? ⟨B, 1, none⟩ = some (.string t1) ∧ w.cell? ⟨B + 1, 0, none⟩ = some (.int .i64 k2) ∧ w.cell? ⟨B + 1, 1, none⟩ = some (.string t2) ∧ w.cell? ⟨B + 2, 0, none⟩ = some (.int .i64 k3) ∧ w.cell? ⟨B + 2, 1, none⟩ = some (.string t3) :=
  ⟨h.a.cell0, h.a.cell1, h.b.cell0, h.b.cell1, h.c.cell0, h.c.cell1⟩
/-- What a call of the comparison does. -/
abbrev Cmp (f : Nat) (k1 : Int) (t1 : ByteArray) (k2 : Int) (t2 : ByteArray) (x : Int) : Prop :=
  ∀ w, Calls Tryd.prog f #[.agg #[.int .i64 k1, .string t1], .agg #[.int .i64 k2, .string t2]] w fun e w' => e = .returned (.int .i64 x) ∧ Below w.heap.size w w'

set_option maxRecDepth 100000 in
set_option maxHeartbeats 16000000 in
theorem order_np (k1 : Int) (t1 : ByteArray) (k2 : Int) (t2 : ByteArray) (k3 : Int) (t3 : ByteArray) (y z : Int) (w : World) (hab : Cmp 28 k1 t1 k2 t2 (1)) (hbc : Cmp 28 k2 t2 k3 t3 y) (hac : Cmp 28 k1 t1 k3 t3 z) (hba : Cmp 28 k2 t2 k1 t1 (-(1))) (hrf : Cmp 29 k1 t1 k2 t2 (1))
    (heq : ∀ w, (binOp .eql 23 (.agg #[.int .i64 k1, .string t1]) (.agg #[.int .i64 k2, .string t2])).run Tryd.prog w = .ok (.bool false) w) (d1 : (k1 != 0) = true) :
    Calls Tryd.prog 9 #[.agg #[.int .i64 k1, .string t1], .agg #[.int .i64 k2, .string t2], .agg #[.int .i64 k3, .string t3]] w fun e w' => e = .returned (.bool true) ∧ Below w.heap.size w w' := by
  unfold Cmp at hab hbc hac hba hrf
  have T0 := Lib.hid (Tri.start w k1 t1 k2 t2 k3 t3)
  have HB := Lib.hid (below_alloc (below_alloc ((Below.refl w.heap.size w).alloc (Nat.le_refl _) (.cells #[.int .i64 k1, .string t1] 23)) (.cells #[.int .i64 k2, .string t2] 23)) (.cells #[.int .i64 k3, .string t3] 23))
  go_enter Tryd.func9, Tryd.ntmps9
  go_upto_region 1 with fail
  generalize ((w.alloc (.cells #[.int .i64 k1, .string t1] 23)).alloc (.cells #[.int .i64 k2, .string t2] 23)).alloc (.cells #[.int .i64 k3, .string t3] 23) = w0 at *
  have K0 := Lib.hid (show (fun b => b < w0.heap.size) w.heap.size from T0.out.a.lt)
  have K1 := Lib.hid (show (fun b => b < w0.heap.size) (w.heap.size + 1) from T0.out.b.lt)
  have K2 := Lib.hid (show (fun b => b < w0.heap.size) (w.heap.size + 2) from T0.out.c.lt)
  obtain ⟨y0, y1, y2, y3, y4, y5⟩ := T0.out.drew.cells
  have Z0 := Lib.hid y0
  have Z1 := Lib.hid y2
  have Z2 := Lib.hid y4
  go_upto_region 2 with (first
    | ((with_reducible refine Lex.at_finK ?_); refine LexK.finE_on (by kernel_rfl) (by repeat first | exact LexK.finL_nil | refine LexK.finL_none rfl ?_ | refine LexK.finL_skip (by decide +kernel) ?_ | refine LexK.finL_take rfl K0.out Z0.out ?_ | refine LexK.finL_take rfl K1.out Z1.out ?_ | refine LexK.finL_take rfl K2.out Z2.out ?_) ?_)
    | ((with_reducible refine Lex.at_region ?_); refine LexK.wp_region_lexE (fun b => b < w0.heap.size) (by kernel_rfl) (by decide +kernel) ?_)
    | ((with_reducible refine Lex.at_wpX ?_); with_reducible refine LexK.wpX_plain (by decide +kernel) ?_)
    | ((with_reducible refine Lex.at_wpX ?_); with_reducible refine LexK.wpX_call ?_)
    | ((with_reducible refine Lex.at_wpX ?_); with_reducible refine LexK.wpX_nil ?_)
    | ((with_reducible refine Lex.at_ext ?_); with_reducible refine LexK.ext_on (LexK.Ext.of_below H1.out (Nat.le_refl _)) ?_)
    | ((with_reducible refine Lex.at_ext ?_); with_reducible refine LexK.ext_on (LexK.Ext.of_below H2.out (Nat.le_refl _)) ?_)
    | ((with_reducible refine Lex.at_ext ?_); with_reducible refine LexK.ext_on (LexK.Ext.of_below H3.out (Nat.le_refl _)) ?_)
    | (go_at_call 28; first
        | (with_reducible refine (hab _).mono ?_; rintro e w1 ⟨rfl, h1⟩; have H1 := Lib.hid h1; clear h1; have T1 := Lib.hid (T0.out.drew.below H1.out); obtain ⟨u0, u1, u2, u3, u4, u5⟩ := T1.out.cells)
        | (with_reducible refine (hbc _).mono ?_; rintro e w2 ⟨rfl, h2⟩; have H2 := Lib.hid h2; clear h2; have T2 := Lib.hid (T1.out.below H2.out); obtain ⟨v0, v1, v2, v3, v4, v5⟩ := T2.out.cells)
        | (with_reducible refine (hac _).mono ?_; rintro e w3 ⟨rfl, h3⟩; have H3 := Lib.hid h3; clear h3; have T3 := Lib.hid (T2.out.below H3.out))))
  clear y0 y1 y2 y3 y4 y5 u0 u1 u2 u3 u4 u5 v0 v1 v2 v3 v4 v5 Z0 Z1 Z2 K0 K1 K2
  obtain ⟨y0, y1, y2, y3, y4, y5⟩ := T3.out.cells
  go_wp2_with (first
    | (go_at_call 28; with_reducible refine (hba _).mono ?_; rintro e w4 ⟨rfl, h4⟩; have H4 := Lib.hid h4; clear h4; obtain ⟨u0, u1, u2, u3, u4, u5⟩ := (T3.out.below H4.out).cells)
    | (go_at_call 29; refine (hrf _).mono ?_; rintro e w5 ⟨rfl, h5⟩; have H5 := Lib.hid h5; clear h5)
    | (go_at_call 16; refine (awake_any _).mono ?_; rintro e w6 ⟨rfl, h6⟩; have H6 := Lib.hid h6; clear h6))
  go_ret
  exact ⟨rfl, below_trans (below_trans (below_trans (below_trans (below_trans (below_trans HB.out.drew H1.out) H2.out) H3.out) H4.out) H5.out) H6.out⟩

set_option maxRecDepth 100000 in
set_option maxHeartbeats 16000000 in
theorem order_nzp (k1 : Int) (t1 : ByteArray) (k2 : Int) (t2 : ByteArray) (k3 : Int) (t3 : ByteArray) (y z : Int) (w : World) (hab : Cmp 28 k1 t1 k2 t2 (0)) (hbc : Cmp 28 k2 t2 k3 t3 y) (hac : Cmp 28 k1 t1 k3 t3 z) (hba : Cmp 28 k2 t2 k1 t1 (-(0))) (hrf : Cmp 29 k1 t1 k2 t2 (0))
    (heq : ∀ w, (binOp .eql 23 (.agg #[.int .i64 k1, .string t1]) (.agg #[.int .i64 k2, .string t2])).run Tryd.prog w = .ok (.bool true) w) (d1 : (k1 != 0) = true) (d3 : decide (y > 0) = true) :
    Calls Tryd.prog 9 #[.agg #[.int .i64 k1, .string t1], .agg #[.int .i64 k2, .string t2], .agg #[.int .i64 k3, .string t3]] w fun e w' => e = .returned (.bool true) ∧ Below w.heap.size w w' := by
  unfold Cmp at hab hbc hac hba hrf
  have T0 := Lib.hid (Tri.start w k1 t1 k2 t2 k3 t3)
  have HB := Lib.hid (below_alloc (below_alloc ((Below.refl w.heap.size w).alloc (Nat.le_refl _) (.cells #[.int .i64 k1, .string t1] 23)) (.cells #[.int .i64 k2, .string t2] 23)) (.cells #[.int .i64 k3, .string t3] 23))
  go_enter Tryd.func9, Tryd.ntmps9
  go_upto_region 1 with fail
  generalize ((w.alloc (.cells #[.int .i64 k1, .string t1] 23)).alloc (.cells #[.int .i64 k2, .string t2] 23)).alloc (.cells #[.int .i64 k3, .string t3] 23) = w0 at *
  have K0 := Lib.hid (show (fun b => b < w0.heap.size) w.heap.size from T0.out.a.lt)
  have K1 := Lib.hid (show (fun b => b < w0.heap.size) (w.heap.size + 1) from T0.out.b.lt)
  have K2 := Lib.hid (show (fun b => b < w0.heap.size) (w.heap.size + 2) from T0.out.c.lt)
  obtain ⟨y0, y1, y2, y3, y4, y5⟩ := T0.out.drew.cells
  have Z0 := Lib.hid y0
  have Z1 := Lib.hid y2
  have Z2 := Lib.hid y4
  go_upto_region 2 with (first
    | ((with_reducible refine Lex.at_finK ?_); refine LexK.finE_on (by kernel_rfl) (by repeat first | exact LexK.finL_nil | refine LexK.finL_none rfl ?_ | refine LexK.finL_skip (by decide +kernel) ?_ | refine LexK.finL_take rfl K0.out Z0.out ?_ | refine LexK.finL_take rfl K1.out Z1.out ?_ | refine LexK.finL_take rfl K2.out Z2.out ?_) ?_)
    | ((with_reducible refine Lex.at_region ?_); refine LexK.wp_region_lexE (fun b => b < w0.heap.size) (by kernel_rfl) (by decide +kernel) ?_)
    | ((with_reducible refine Lex.at_wpX ?_); with_reducible refine LexK.wpX_plain (by decide +kernel) ?_)
    | ((with_reducible refine Lex.at_wpX ?_); with_reducible refine LexK.wpX_call ?_)
    | ((with_reducible refine Lex.at_wpX ?_); with_reducible refine LexK.wpX_nil ?_)
    | ((with_reducible refine Lex.at_ext ?_); with_reducible refine LexK.ext_on (LexK.Ext.of_below H1.out (Nat.le_refl _)) ?_)
    | ((with_reducible refine Lex.at_ext ?_); with_reducible refine LexK.ext_on (LexK.Ext.of_below H2.out (Nat.le_refl _)) ?_)
    | ((with_reducible refine Lex.at_ext ?_); with_reducible refine LexK.ext_on (LexK.Ext.of_below H3.out (Nat.le_refl _)) ?_)
    | (go_at_call 28; first
        | (with_reducible refine (hab _).mono ?_; rintro e w1 ⟨rfl, h1⟩; have H1 := Lib.hid h1; clear h1; have T1 := Lib.hid (T0.out.drew.below H1.out); obtain ⟨u0, u1, u2, u3, u4, u5⟩ := T1.out.cells)
        | (with_reducible refine (hbc _).mono ?_; rintro e w2 ⟨rfl, h2⟩; have H2 := Lib.hid h2; clear h2; have T2 := Lib.hid (T1.out.below H2.out); obtain ⟨v0, v1, v2, v3, v4, v5⟩ := T2.out.cells)
        | (with_reducible refine (hac _).mono ?_; rintro e w3 ⟨rfl, h3⟩; have H3 := Lib.hid h3; clear h3; have T3 := Lib.hid (T2.out.below H3.out))))
  clear y0 y1 y2 y3 y4 y5 u0 u1 u2 u3 u4 u5 v0 v1 v2 v3 v4 v5 Z0 Z1 Z2 K0 K1 K2
  obtain ⟨y0, y1, y2, y3, y4, y5⟩ := T3.out.cells
  go_wp2_with (first
    | (go_at_call 28; with_reducible refine (hba _).mono ?_; rintro e w4 ⟨rfl, h4⟩; have H4 := Lib.hid h4; clear h4; obtain ⟨u0, u1, u2, u3, u4, u5⟩ := (T3.out.below H4.out).cells)
    | (go_at_call 29; refine (hrf _).mono ?_; rintro e w5 ⟨rfl, h5⟩; have H5 := Lib.hid h5; clear h5)
    | (go_at_call 16; refine (awake_any _).mono ?_; rintro e w6 ⟨rfl, h6⟩; have H6 := Lib.hid h6; clear h6))
  go_ret
  exact ⟨rfl, below_trans (below_trans (below_trans (below_trans (below_trans (below_trans HB.out.drew H1.out) H2.out) H3.out) H4.out) H5.out) H6.out⟩

set_option maxRecDepth 100000 in
set_option maxHeartbeats 16000000 in
theorem order_nzn (k1 : Int) (t1 : ByteArray) (k2 : Int) (t2 : ByteArray) (k3 : Int) (t3 : ByteArray) (y z : Int) (w : World) (hab : Cmp 28 k1 t1 k2 t2 (0)) (hbc : Cmp 28 k2 t2 k3 t3 y) (hac : Cmp 28 k1 t1 k3 t3 z) (hba : Cmp 28 k2 t2 k1 t1 (-(0))) (hrf : Cmp 29 k1 t1 k2 t2 (0))
    (heq : ∀ w, (binOp .eql 23 (.agg #[.int .i64 k1, .string t1]) (.agg #[.int .i64 k2, .string t2])).run Tryd.prog w = .ok (.bool true) w) (d1 : (k1 != 0) = true) (d3 : decide (y > 0) = false) (d4 : decide (z ≤ 0) = true) :
    Calls Tryd.prog 9 #[.agg #[.int .i64 k1, .string t1], .agg #[.int .i64 k2, .string t2], .agg #[.int .i64 k3, .string t3]] w fun e w' => e = .returned (.bool true) ∧ Below w.heap.size w w' := by
  unfold Cmp at hab hbc hac hba hrf
  have T0 := Lib.hid (Tri.start w k1 t1 k2 t2 k3 t3)
  have HB := Lib.hid (below_alloc (below_alloc ((Below.refl w.heap.size w).alloc (Nat.le_refl _) (.cells #[.int .i64 k1, .string t1] 23)) (.cells #[.int .i64 k2, .string t2] 23)) (.cells #[.int .i64 k3, .string t3] 23))
  go_enter Tryd.func9, Tryd.ntmps9
  go_upto_region 1 with fail
  generalize ((w.alloc (.cells #[.int .i64 k1, .string t1] 23)).alloc (.cells #[.int .i64 k2, .string t2] 23)).alloc (.cells #[.int .i64 k3, .string t3] 23) = w0 at *
  have K0 := Lib.hid (show (fun b => b < w0.heap.size) w.heap.size from T0.out.a.lt)
  have K1 := Lib.hid (show (fun b => b < w0.heap.size) (w.heap.size + 1) from T0.out.b.lt)
  have K2 := Lib.hid (show (fun b => b < w0.heap.size) (w.heap.size + 2) from T0.out.c.lt)
  obtain ⟨y0, y1, y2, y3, y4, y5⟩ := T0.out.drew.cells
  have Z0 := Lib.hid y0
  have Z1 := Lib.hid y2
  have Z2 := Lib.hid y4
  go_upto_region 2 with (first
    | ((with_reducible refine Lex.at_finK ?_); refine LexK.finE_on (by kernel_rfl) (by repeat first | exact LexK.finL_nil | refine LexK.finL_none rfl ?_ | refine LexK.finL_skip (by decide +kernel) ?_ | refine LexK.finL_take rfl K0.out Z0.out ?_ | refine LexK.finL_take rfl K1.out Z1.out ?_ | refine LexK.finL_take rfl K2.out Z2.out ?_) ?_)
    | ((with_reducible refine Lex.at_region ?_); refine LexK.wp_region_lexE (fun b => b < w0.heap.size) (by kernel_rfl) (by decide +kernel) ?_)
    | ((with_reducible refine Lex.at_wpX ?_); with_reducible refine LexK.wpX_plain (by decide +kernel) ?_)
    | ((with_reducible refine Lex.at_wpX ?_); with_reducible refine LexK.wpX_call ?_)
    | ((with_reducible refine Lex.at_wpX ?_); with_reducible refine LexK.wpX_nil ?_)
    | ((with_reducible refine Lex.at_ext ?_); with_reducible refine LexK.ext_on (LexK.Ext.of_below H1.out (Nat.le_refl _)) ?_)
    | ((with_reducible refine Lex.at_ext ?_); with_reducible refine LexK.ext_on (LexK.Ext.of_below H2.out (Nat.le_refl _)) ?_)
    | ((with_reducible refine Lex.at_ext ?_); with_reducible refine LexK.ext_on (LexK.Ext.of_below H3.out (Nat.le_refl _)) ?_)
    | (go_at_call 28; first
        | (with_reducible refine (hab _).mono ?_; rintro e w1 ⟨rfl, h1⟩; have H1 := Lib.hid h1; clear h1; have T1 := Lib.hid (T0.out.drew.below H1.out); obtain ⟨u0, u1, u2, u3, u4, u5⟩ := T1.out.cells)
        | (with_reducible refine (hbc _).mono ?_; rintro e w2 ⟨rfl, h2⟩; have H2 := Lib.hid h2; clear h2; have T2 := Lib.hid (T1.out.below H2.out); obtain ⟨v0, v1, v2, v3, v4, v5⟩ := T2.out.cells)
        | (with_reducible refine (hac _).mono ?_; rintro e w3 ⟨rfl, h3⟩; have H3 := Lib.hid h3; clear h3; have T3 := Lib.hid (T2.out.below H3.out))))
  clear y0 y1 y2 y3 y4 y5 u0 u1 u2 u3 u4 u5 v0 v1 v2 v3 v4 v5 Z0 Z1 Z2 K0 K1 K2
  obtain ⟨y0, y1, y2, y3, y4, y5⟩ := T3.out.cells
  go_wp2_with (first
    | (go_at_call 28; with_reducible refine (hba _).mono ?_; rintro e w4 ⟨rfl, h4⟩; have H4 := Lib.hid h4; clear h4; obtain ⟨u0, u1, u2, u3, u4, u5⟩ := (T3.out.below H4.out).cells)
    | (go_at_call 29; refine (hrf _).mono ?_; rintro e w5 ⟨rfl, h5⟩; have H5 := Lib.hid h5; clear h5)
    | (go_at_call 16; refine (awake_any _).mono ?_; rintro e w6 ⟨rfl, h6⟩; have H6 := Lib.hid h6; clear h6))
  go_ret
  exact ⟨rfl, below_trans (below_trans (below_trans (below_trans (below_trans (below_trans HB.out.drew H1.out) H2.out) H3.out) H4.out) H5.out) H6.out⟩

set_option maxRecDepth 100000 in
set_option maxHeartbeats 16000000 in
theorem order_nnp (k1 : Int) (t1 : ByteArray) (k2 : Int) (t2 : ByteArray) (k3 : Int) (t3 : ByteArray) (y z : Int) (w : World) (hab : Cmp 28 k1 t1 k2 t2 (-1)) (hbc : Cmp 28 k2 t2 k3 t3 y) (hac : Cmp 28 k1 t1 k3 t3 z) (hba : Cmp 28 k2 t2 k1 t1 (-(-1))) (hrf : Cmp 29 k1 t1 k2 t2 (-1))
    (heq : ∀ w, (binOp .eql 23 (.agg #[.int .i64 k1, .string t1]) (.agg #[.int .i64 k2, .string t2])).run Tryd.prog w = .ok (.bool false) w) (d1 : (k1 != 0) = true) (d3 : decide (y > 0) = true) :
    Calls Tryd.prog 9 #[.agg #[.int .i64 k1, .string t1], .agg #[.int .i64 k2, .string t2], .agg #[.int .i64 k3, .string t3]] w fun e w' => e = .returned (.bool true) ∧ Below w.heap.size w w' := by
  unfold Cmp at hab hbc hac hba hrf
  have T0 := Lib.hid (Tri.start w k1 t1 k2 t2 k3 t3)
  have HB := Lib.hid (below_alloc (below_alloc ((Below.refl w.heap.size w).alloc (Nat.le_refl _) (.cells #[.int .i64 k1, .string t1] 23)) (.cells #[.int .i64 k2, .string t2] 23)) (.cells #[.int .i64 k3, .string t3] 23))
  go_enter Tryd.func9, Tryd.ntmps9
  go_upto_region 1 with fail
  generalize ((w.alloc (.cells #[.int .i64 k1, .string t1] 23)).alloc (.cells #[.int .i64 k2, .string t2] 23)).alloc (.cells #[.int .i64 k3, .string t3] 23) = w0 at *
  have K0 := Lib.hid (show (fun b => b < w0.heap.size) w.heap.size from T0.out.a.lt)
  have K1 := Lib.hid (show (fun b => b < w0.heap.size) (w.heap.size + 1) from T0.out.b.lt)
  have K2 := Lib.hid (show (fun b => b < w0.heap.size) (w.heap.size + 2) from T0.out.c.lt)
  obtain ⟨y0, y1, y2, y3, y4, y5⟩ := T0.out.drew.cells
  have Z0 := Lib.hid y0
  have Z1 := Lib.hid y2
  have Z2 := Lib.hid y4
  go_upto_region 2 with (first
    | ((with_reducible refine Lex.at_finK ?_); refine LexK.finE_on (by kernel_rfl) (by repeat first | exact LexK.finL_nil | refine LexK.finL_none rfl ?_ | refine LexK.finL_skip (by decide +kernel) ?_ | refine LexK.finL_take rfl K0.out Z0.out ?_ | refine LexK.finL_take rfl K1.out Z1.out ?_ | refine LexK.finL_take rfl K2.out Z2.out ?_) ?_)
    | ((with_reducible refine Lex.at_region ?_); refine LexK.wp_region_lexE (fun b => b < w0.heap.size) (by kernel_rfl) (by decide +kernel) ?_)
    | ((with_reducible refine Lex.at_wpX ?_); with_reducible refine LexK.wpX_plain (by decide +kernel) ?_)
    | ((with_reducible refine Lex.at_wpX ?_); with_reducible refine LexK.wpX_call ?_)
    | ((with_reducible refine Lex.at_wpX ?_); with_reducible refine LexK.wpX_nil ?_)
    | ((with_reducible refine Lex.at_ext ?_); with_reducible refine LexK.ext_on (LexK.Ext.of_below H1.out (Nat.le_refl _)) ?_)
    | ((with_reducible refine Lex.at_ext ?_); with_reducible refine LexK.ext_on (LexK.Ext.of_below H2.out (Nat.le_refl _)) ?_)
    | ((with_reducible refine Lex.at_ext ?_); with_reducible refine LexK.ext_on (LexK.Ext.of_below H3.out (Nat.le_refl _)) ?_)
    | (go_at_call 28; first
        | (with_reducible refine (hab _).mono ?_; rintro e w1 ⟨rfl, h1⟩; have H1 := Lib.hid h1; clear h1; have T1 := Lib.hid (T0.out.drew.below H1.out); obtain ⟨u0, u1, u2, u3, u4, u5⟩ := T1.out.cells)
        | (with_reducible refine (hbc _).mono ?_; rintro e w2 ⟨rfl, h2⟩; have H2 := Lib.hid h2; clear h2; have T2 := Lib.hid (T1.out.below H2.out); obtain ⟨v0, v1, v2, v3, v4, v5⟩ := T2.out.cells)
        | (with_reducible refine (hac _).mono ?_; rintro e w3 ⟨rfl, h3⟩; have H3 := Lib.hid h3; clear h3; have T3 := Lib.hid (T2.out.below H3.out))))
  clear y0 y1 y2 y3 y4 y5 u0 u1 u2 u3 u4 u5 v0 v1 v2 v3 v4 v5 Z0 Z1 Z2 K0 K1 K2
  obtain ⟨y0, y1, y2, y3, y4, y5⟩ := T3.out.cells
  go_wp2_with (first
    | (go_at_call 28; with_reducible refine (hba _).mono ?_; rintro e w4 ⟨rfl, h4⟩; have H4 := Lib.hid h4; clear h4; obtain ⟨u0, u1, u2, u3, u4, u5⟩ := (T3.out.below H4.out).cells)
    | (go_at_call 29; refine (hrf _).mono ?_; rintro e w5 ⟨rfl, h5⟩; have H5 := Lib.hid h5; clear h5)
    | (go_at_call 16; refine (awake_any _).mono ?_; rintro e w6 ⟨rfl, h6⟩; have H6 := Lib.hid h6; clear h6))
  go_ret
  exact ⟨rfl, below_trans (below_trans (below_trans (below_trans (below_trans (below_trans HB.out.drew H1.out) H2.out) H3.out) H4.out) H5.out) H6.out⟩

set_option maxRecDepth 100000 in
set_option maxHeartbeats 16000000 in
theorem order_nnn (k1 : Int) (t1 : ByteArray) (k2 : Int) (t2 : ByteArray) (k3 : Int) (t3 : ByteArray) (y z : Int) (w : World) (hab : Cmp 28 k1 t1 k2 t2 (-1)) (hbc : Cmp 28 k2 t2 k3 t3 y) (hac : Cmp 28 k1 t1 k3 t3 z) (hba : Cmp 28 k2 t2 k1 t1 (-(-1))) (hrf : Cmp 29 k1 t1 k2 t2 (-1))
    (heq : ∀ w, (binOp .eql 23 (.agg #[.int .i64 k1, .string t1]) (.agg #[.int .i64 k2, .string t2])).run Tryd.prog w = .ok (.bool false) w) (d1 : (k1 != 0) = true) (d3 : decide (y > 0) = false) (d4 : decide (z ≤ 0) = true) (d5 : decide (z < 0) = true) :
    Calls Tryd.prog 9 #[.agg #[.int .i64 k1, .string t1], .agg #[.int .i64 k2, .string t2], .agg #[.int .i64 k3, .string t3]] w fun e w' => e = .returned (.bool true) ∧ Below w.heap.size w w' := by
  unfold Cmp at hab hbc hac hba hrf
  have T0 := Lib.hid (Tri.start w k1 t1 k2 t2 k3 t3)
  have HB := Lib.hid (below_alloc (below_alloc ((Below.refl w.heap.size w).alloc (Nat.le_refl _) (.cells #[.int .i64 k1, .string t1] 23)) (.cells #[.int .i64 k2, .string t2] 23)) (.cells #[.int .i64 k3, .string t3] 23))
  go_enter Tryd.func9, Tryd.ntmps9
  go_upto_region 1 with fail
  generalize ((w.alloc (.cells #[.int .i64 k1, .string t1] 23)).alloc (.cells #[.int .i64 k2, .string t2] 23)).alloc (.cells #[.int .i64 k3, .string t3] 23) = w0 at *
  have K0 := Lib.hid (show (fun b => b < w0.heap.size) w.heap.size from T0.out.a.lt)
  have K1 := Lib.hid (show (fun b => b < w0.heap.size) (w.heap.size + 1) from T0.out.b.lt)
  have K2 := Lib.hid (show (fun b => b < w0.heap.size) (w.heap.size + 2) from T0.out.c.lt)
  obtain ⟨y0, y1, y2, y3, y4, y5⟩ := T0.out.drew.cells
  have Z0 := Lib.hid y0
  have Z1 := Lib.hid y2
  have Z2 := Lib.hid y4
  go_upto_region 2 with (first
    | ((with_reducible refine Lex.at_finK ?_); refine LexK.finE_on (by kernel_rfl) (by repeat first | exact LexK.finL_nil | refine LexK.finL_none rfl ?_ | refine LexK.finL_skip (by decide +kernel) ?_ | refine LexK.finL_take rfl K0.out Z0.out ?_ | refine LexK.finL_take rfl K1.out Z1.out ?_ | refine LexK.finL_take rfl K2.out Z2.out ?_) ?_)
    | ((with_reducible refine Lex.at_region ?_); refine LexK.wp_region_lexE (fun b => b < w0.heap.size) (by kernel_rfl) (by decide +kernel) ?_)
    | ((with_reducible refine Lex.at_wpX ?_); with_reducible refine LexK.wpX_plain (by decide +kernel) ?_)
    | ((with_reducible refine Lex.at_wpX ?_); with_reducible refine LexK.wpX_call ?_)
    | ((with_reducible refine Lex.at_wpX ?_); with_reducible refine LexK.wpX_nil ?_)
    | ((with_reducible refine Lex.at_ext ?_); with_reducible refine LexK.ext_on (LexK.Ext.of_below H1.out (Nat.le_refl _)) ?_)
    | ((with_reducible refine Lex.at_ext ?_); with_reducible refine LexK.ext_on (LexK.Ext.of_below H2.out (Nat.le_refl _)) ?_)
    | ((with_reducible refine Lex.at_ext ?_); with_reducible refine LexK.ext_on (LexK.Ext.of_below H3.out (Nat.le_refl _)) ?_)
    | (go_at_call 28; first
        | (with_reducible refine (hab _).mono ?_; rintro e w1 ⟨rfl, h1⟩; have H1 := Lib.hid h1; clear h1; have T1 := Lib.hid (T0.out.drew.below H1.out); obtain ⟨u0, u1, u2, u3, u4, u5⟩ := T1.out.cells)
        | (with_reducible refine (hbc _).mono ?_; rintro e w2 ⟨rfl, h2⟩; have H2 := Lib.hid h2; clear h2; have T2 := Lib.hid (T1.out.below H2.out); obtain ⟨v0, v1, v2, v3, v4, v5⟩ := T2.out.cells)
        | (with_reducible refine (hac _).mono ?_; rintro e w3 ⟨rfl, h3⟩; have H3 := Lib.hid h3; clear h3; have T3 := Lib.hid (T2.out.below H3.out))))
  clear y0 y1 y2 y3 y4 y5 u0 u1 u2 u3 u4 u5 v0 v1 v2 v3 v4 v5 Z0 Z1 Z2 K0 K1 K2
  obtain ⟨y0, y1, y2, y3, y4, y5⟩ := T3.out.cells
  go_wp2_with (first
    | (go_at_call 28; with_reducible refine (hba _).mono ?_; rintro e w4 ⟨rfl, h4⟩; have H4 := Lib.hid h4; clear h4; obtain ⟨u0, u1, u2, u3, u4, u5⟩ := (T3.out.below H4.out).cells)
    | (go_at_call 29; refine (hrf _).mono ?_; rintro e w5 ⟨rfl, h5⟩; have H5 := Lib.hid h5; clear h5)
    | (go_at_call 16; refine (awake_any _).mono ?_; rintro e w6 ⟨rfl, h6⟩; have H6 := Lib.hid h6; clear h6))
  go_ret
  exact ⟨rfl, below_trans (below_trans (below_trans (below_trans (below_trans (below_trans HB.out.drew H1.out) H2.out) H3.out) H4.out) H5.out) H6.out⟩

set_option maxRecDepth 100000 in
set_option maxHeartbeats 16000000 in
theorem order_mp (k1 : Int) (t1 : ByteArray) (k2 : Int) (t2 : ByteArray) (k3 : Int) (t3 : ByteArray) (y z : Int) (w : World) (hab : Cmp 28 k1 t1 k2 t2 (1)) (hbc : Cmp 28 k2 t2 k3 t3 y) (hac : Cmp 28 k1 t1 k3 t3 z) (hba : Cmp 28 k2 t2 k1 t1 (-(1))) (hrf : Cmp 29 k1 t1 k2 t2 (1))
    (heq : ∀ w, (binOp .eql 23 (.agg #[.int .i64 k1, .string t1]) (.agg #[.int .i64 k2, .string t2])).run Tryd.prog w = .ok (.bool false) w) (d1 : (k1 != 0) = false) (d2 : (k2 != 1) = true) :
    Calls Tryd.prog 9 #[.agg #[.int .i64 k1, .string t1], .agg #[.int .i64 k2, .string t2], .agg #[.int .i64 k3, .string t3]] w fun e w' => e = .returned (.bool true) ∧ Below w.heap.size w w' := by
  unfold Cmp at hab hbc hac hba hrf
  have T0 := Lib.hid (Tri.start w k1 t1 k2 t2 k3 t3)
  have HB := Lib.hid (below_alloc (below_alloc ((Below.refl w.heap.size w).alloc (Nat.le_refl _) (.cells #[.int .i64 k1, .string t1] 23)) (.cells #[.int .i64 k2, .string t2] 23)) (.cells #[.int .i64 k3, .string t3] 23))
  go_enter Tryd.func9, Tryd.ntmps9
  go_upto_region 1 with fail
  generalize ((w.alloc (.cells #[.int .i64 k1, .string t1] 23)).alloc (.cells #[.int .i64 k2, .string t2] 23)).alloc (.cells #[.int .i64 k3, .string t3] 23) = w0 at *
  have K0 := Lib.hid (show (fun b => b < w0.heap.size) w.heap.size from T0.out.a.lt)
  have K1 := Lib.hid (show (fun b => b < w0.heap.size) (w.heap.size + 1) from T0.out.b.lt)
  have K2 := Lib.hid (show (fun b => b < w0.heap.size) (w.heap.size + 2) from T0.out.c.lt)
  obtain ⟨y0, y1, y2, y3, y4, y5⟩ := T0.out.drew.cells
  have Z0 := Lib.hid y0
  have Z1 := Lib.hid y2
  have Z2 := Lib.hid y4
  go_upto_region 2 with (first
    | ((with_reducible refine Lex.at_finK ?_); refine LexK.finE_on (by kernel_rfl) (by repeat first | exact LexK.finL_nil | refine LexK.finL_none rfl ?_ | refine LexK.finL_skip (by decide +kernel) ?_ | refine LexK.finL_take rfl K0.out Z0.out ?_ | refine LexK.finL_take rfl K1.out Z1.out ?_ | refine LexK.finL_take rfl K2.out Z2.out ?_) ?_)
    | ((with_reducible refine Lex.at_region ?_); refine LexK.wp_region_lexE (fun b => b < w0.heap.size) (by kernel_rfl) (by decide +kernel) ?_)
    | ((with_reducible refine Lex.at_wpX ?_); with_reducible refine LexK.wpX_plain (by decide +kernel) ?_)
    | ((with_reducible refine Lex.at_wpX ?_); with_reducible refine LexK.wpX_call ?_)
    | ((with_reducible refine Lex.at_wpX ?_); with_reducible refine LexK.wpX_nil ?_)
    | ((with_reducible refine Lex.at_ext ?_); with_reducible refine LexK.ext_on (LexK.Ext.of_below H1.out (Nat.le_refl _)) ?_)
    | ((with_reducible refine Lex.at_ext ?_); with_reducible refine LexK.ext_on (LexK.Ext.of_below H2.out (Nat.le_refl _)) ?_)
    | ((with_reducible refine Lex.at_ext ?_); with_reducible refine LexK.ext_on (LexK.Ext.of_below H3.out (Nat.le_refl _)) ?_)
    | (go_at_call 28; first
        | (with_reducible refine (hab _).mono ?_; rintro e w1 ⟨rfl, h1⟩; have H1 := Lib.hid h1; clear h1; have T1 := Lib.hid (T0.out.drew.below H1.out); obtain ⟨u0, u1, u2, u3, u4, u5⟩ := T1.out.cells)
        | (with_reducible refine (hbc _).mono ?_; rintro e w2 ⟨rfl, h2⟩; have H2 := Lib.hid h2; clear h2; have T2 := Lib.hid (T1.out.below H2.out); obtain ⟨v0, v1, v2, v3, v4, v5⟩ := T2.out.cells)
        | (with_reducible refine (hac _).mono ?_; rintro e w3 ⟨rfl, h3⟩; have H3 := Lib.hid h3; clear h3; have T3 := Lib.hid (T2.out.below H3.out))))
  clear y0 y1 y2 y3 y4 y5 u0 u1 u2 u3 u4 u5 v0 v1 v2 v3 v4 v5 Z0 Z1 Z2 K0 K1 K2
  obtain ⟨y0, y1, y2, y3, y4, y5⟩ := T3.out.cells
  go_wp2_with (first
    | (go_at_call 28; with_reducible refine (hba _).mono ?_; rintro e w4 ⟨rfl, h4⟩; have H4 := Lib.hid h4; clear h4; obtain ⟨u0, u1, u2, u3, u4, u5⟩ := (T3.out.below H4.out).cells)
    | (go_at_call 29; refine (hrf _).mono ?_; rintro e w5 ⟨rfl, h5⟩; have H5 := Lib.hid h5; clear h5)
    | (go_at_call 16; refine (awake_any _).mono ?_; rintro e w6 ⟨rfl, h6⟩; have H6 := Lib.hid h6; clear h6))
  go_ret
  exact ⟨rfl, below_trans (below_trans (below_trans (below_trans (below_trans (below_trans HB.out.drew H1.out) H2.out) H3.out) H4.out) H5.out) H6.out⟩

set_option maxRecDepth 100000 in
set_option maxHeartbeats 16000000 in
theorem order_mzp (k1 : Int) (t1 : ByteArray) (k2 : Int) (t2 : ByteArray) (k3 : Int) (t3 : ByteArray) (y z : Int) (w : World) (hab : Cmp 28 k1 t1 k2 t2 (0)) (hbc : Cmp 28 k2 t2 k3 t3 y) (hac : Cmp 28 k1 t1 k3 t3 z) (hba : Cmp 28 k2 t2 k1 t1 (-(0))) (hrf : Cmp 29 k1 t1 k2 t2 (0))
    (heq : ∀ w, (binOp .eql 23 (.agg #[.int .i64 k1, .string t1]) (.agg #[.int .i64 k2, .string t2])).run Tryd.prog w = .ok (.bool true) w) (d1 : (k1 != 0) = false) (d2 : (k2 != 1) = true) (d3 : decide (y > 0) = true) :
    Calls Tryd.prog 9 #[.agg #[.int .i64 k1, .string t1], .agg #[.int .i64 k2, .string t2], .agg #[.int .i64 k3, .string t3]] w fun e w' => e = .returned (.bool true) ∧ Below w.heap.size w w' := by
  unfold Cmp at hab hbc hac hba hrf
  have T0 := Lib.hid (Tri.start w k1 t1 k2 t2 k3 t3)
  have HB := Lib.hid (below_alloc (below_alloc ((Below.refl w.heap.size w).alloc (Nat.le_refl _) (.cells #[.int .i64 k1, .string t1] 23)) (.cells #[.int .i64 k2, .string t2] 23)) (.cells #[.int .i64 k3, .string t3] 23))
  go_enter Tryd.func9, Tryd.ntmps9
  go_upto_region 1 with fail
  generalize ((w.alloc (.cells #[.int .i64 k1, .string t1] 23)).alloc (.cells #[.int .i64 k2, .string t2] 23)).alloc (.cells #[.int .i64 k3, .string t3] 23) = w0 at *
  have K0 := Lib.hid (show (fun b => b < w0.heap.size) w.heap.size from T0.out.a.lt)
  have K1 := Lib.hid (show (fun b => b < w0.heap.size) (w.heap.size + 1) from T0.out.b.lt)
  have K2 := Lib.hid (show (fun b => b < w0.heap.size) (w.heap.size + 2) from T0.out.c.lt)
  obtain ⟨y0, y1, y2, y3, y4, y5⟩ := T0.out.drew.cells
  have Z0 := Lib.hid y0
  have Z1 := Lib.hid y2
  have Z2 := Lib.hid y4
  go_upto_region 2 with (first
    | ((with_reducible refine Lex.at_finK ?_); refine LexK.finE_on (by kernel_rfl) (by repeat first | exact LexK.finL_nil | refine LexK.finL_none rfl ?_ | refine LexK.finL_skip (by decide +kernel) ?_ | refine LexK.finL_take rfl K0.out Z0.out ?_ | refine LexK.finL_take rfl K1.out Z1.out ?_ | refine LexK.finL_take rfl K2.out Z2.out ?_) ?_)
    | ((with_reducible refine Lex.at_region ?_); refine LexK.wp_region_lexE (fun b => b < w0.heap.size) (by kernel_rfl) (by decide +kernel) ?_)
    | ((with_reducible refine Lex.at_wpX ?_); with_reducible refine LexK.wpX_plain (by decide +kernel) ?_)
    | ((with_reducible refine Lex.at_wpX ?_); with_reducible refine LexK.wpX_call ?_)
    | ((with_reducible refine Lex.at_wpX ?_); with_reducible refine LexK.wpX_nil ?_)
    | ((with_reducible refine Lex.at_ext ?_); with_reducible refine LexK.ext_on (LexK.Ext.of_below H1.out (Nat.le_refl _)) ?_)
    | ((with_reducible refine Lex.at_ext ?_); with_reducible refine LexK.ext_on (LexK.Ext.of_below H2.out (Nat.le_refl _)) ?_)
    | ((with_reducible refine Lex.at_ext ?_); with_reducible refine LexK.ext_on (LexK.Ext.of_below H3.out (Nat.le_refl _)) ?_)
    | (go_at_call 28; first
        | (with_reducible refine (hab _).mono ?_; rintro e w1 ⟨rfl, h1⟩; have H1 := Lib.hid h1; clear h1; have T1 := Lib.hid (T0.out.drew.below H1.out); obtain ⟨u0, u1, u2, u3, u4, u5⟩ := T1.out.cells)
        | (with_reducible refine (hbc _).mono ?_; rintro e w2 ⟨rfl, h2⟩; have H2 := Lib.hid h2; clear h2; have T2 := Lib.hid (T1.out.below H2.out); obtain ⟨v0, v1, v2, v3, v4, v5⟩ := T2.out.cells)
        | (with_reducible refine (hac _).mono ?_; rintro e w3 ⟨rfl, h3⟩; have H3 := Lib.hid h3; clear h3; have T3 := Lib.hid (T2.out.below H3.out))))
  clear y0 y1 y2 y3 y4 y5 u0 u1 u2 u3 u4 u5 v0 v1 v2 v3 v4 v5 Z0 Z1 Z2 K0 K1 K2
  obtain ⟨y0, y1, y2, y3, y4, y5⟩ := T3.out.cells
  go_wp2_with (first
    | (go_at_call 28; with_reducible refine (hba _).mono ?_; rintro e w4 ⟨rfl, h4⟩; have H4 := Lib.hid h4; clear h4; obtain ⟨u0, u1, u2, u3, u4, u5⟩ := (T3.out.below H4.out).cells)
    | (go_at_call 29; refine (hrf _).mono ?_; rintro e w5 ⟨rfl, h5⟩; have H5 := Lib.hid h5; clear h5)
    | (go_at_call 16; refine (awake_any _).mono ?_; rintro e w6 ⟨rfl, h6⟩; have H6 := Lib.hid h6; clear h6))
  go_ret
  exact ⟨rfl, below_trans (below_trans (below_trans (below_trans (below_trans (below_trans HB.out.drew H1.out) H2.out) H3.out) H4.out) H5.out) H6.out⟩

set_option maxRecDepth 100000 in
set_option maxHeartbeats 16000000 in
theorem order_mzn (k1 : Int) (t1 : ByteArray) (k2 : Int) (t2 : ByteArray) (k3 : Int) (t3 : ByteArray) (y z : Int) (w : World) (hab : Cmp 28 k1 t1 k2 t2 (0)) (hbc : Cmp 28 k2 t2 k3 t3 y) (hac : Cmp 28 k1 t1 k3 t3 z) (hba : Cmp 28 k2 t2 k1 t1 (-(0))) (hrf : Cmp 29 k1 t1 k2 t2 (0))
    (heq : ∀ w, (binOp .eql 23 (.agg #[.int .i64 k1, .string t1]) (.agg #[.int .i64 k2, .string t2])).run Tryd.prog w = .ok (.bool true) w) (d1 : (k1 != 0) = false) (d2 : (k2 != 1) = true) (d3 : decide (y > 0) = false) (d4 : decide (z ≤ 0) = true) :
    Calls Tryd.prog 9 #[.agg #[.int .i64 k1, .string t1], .agg #[.int .i64 k2, .string t2], .agg #[.int .i64 k3, .string t3]] w fun e w' => e = .returned (.bool true) ∧ Below w.heap.size w w' := by
  unfold Cmp at hab hbc hac hba hrf
  have T0 := Lib.hid (Tri.start w k1 t1 k2 t2 k3 t3)
  have HB := Lib.hid (below_alloc (below_alloc ((Below.refl w.heap.size w).alloc (Nat.le_refl _) (.cells #[.int .i64 k1, .string t1] 23)) (.cells #[.int .i64 k2, .string t2] 23)) (.cells #[.int .i64 k3, .string t3] 23))
  go_enter Tryd.func9, Tryd.ntmps9
  go_upto_region 1 with fail
  generalize ((w.alloc (.cells #[.int .i64 k1, .string t1] 23)).alloc (.cells #[.int .i64 k2, .string t2] 23)).alloc (.cells #[.int .i64 k3, .string t3] 23) = w0 at *
  have K0 := Lib.hid (show (fun b => b < w0.heap.size) w.heap.size from T0.out.a.lt)
  have K1 := Lib.hid (show (fun b => b < w0.heap.size) (w.heap.size + 1) from T0.out.b.lt)
  have K2 := Lib.hid (show (fun b => b < w0.heap.size) (w.heap.size + 2) from T0.out.c.lt)
  obtain ⟨y0, y1, y2, y3, y4, y5⟩ := T0.out.drew.cells
  have Z0 := Lib.hid y0
  have Z1 := Lib.hid y2
  have Z2 := Lib.hid y4
  go_upto_region 2 with (first
    | ((with_reducible refine Lex.at_finK ?_); refine LexK.finE_on (by kernel_rfl) (by repeat first | exact LexK.finL_nil | refine LexK.finL_none rfl ?_ | refine LexK.finL_skip (by decide +kernel) ?_ | refine LexK.finL_take rfl K0.out Z0.out ?_ | refine LexK.finL_take rfl K1.out Z1.out ?_ | refine LexK.finL_take rfl K2.out Z2.out ?_) ?_)
    | ((with_reducible refine Lex.at_region ?_); refine LexK.wp_region_lexE (fun b => b < w0.heap.size) (by kernel_rfl) (by decide +kernel) ?_)
    | ((with_reducible refine Lex.at_wpX ?_); with_reducible refine LexK.wpX_plain (by decide +kernel) ?_)
    | ((with_reducible refine Lex.at_wpX ?_); with_reducible refine LexK.wpX_call ?_)
    | ((with_reducible refine Lex.at_wpX ?_); with_reducible refine LexK.wpX_nil ?_)
    | ((with_reducible refine Lex.at_ext ?_); with_reducible refine LexK.ext_on (LexK.Ext.of_below H1.out (Nat.le_refl _)) ?_)
    | ((with_reducible refine Lex.at_ext ?_); with_reducible refine LexK.ext_on (LexK.Ext.of_below H2.out (Nat.le_refl _)) ?_)
    | ((with_reducible refine Lex.at_ext ?_); with_reducible refine LexK.ext_on (LexK.Ext.of_below H3.out (Nat.le_refl _)) ?_)
    | (go_at_call 28; first
        | (with_reducible refine (hab _).mono ?_; rintro e w1 ⟨rfl, h1⟩; have H1 := Lib.hid h1; clear h1; have T1 := Lib.hid (T0.out.drew.below H1.out); obtain ⟨u0, u1, u2, u3, u4, u5⟩ := T1.out.cells)
        | (with_reducible refine (hbc _).mono ?_; rintro e w2 ⟨rfl, h2⟩; have H2 := Lib.hid h2; clear h2; have T2 := Lib.hid (T1.out.below H2.out); obtain ⟨v0, v1, v2, v3, v4, v5⟩ := T2.out.cells)
        | (with_reducible refine (hac _).mono ?_; rintro e w3 ⟨rfl, h3⟩; have H3 := Lib.hid h3; clear h3; have T3 := Lib.hid (T2.out.below H3.out))))
  clear y0 y1 y2 y3 y4 y5 u0 u1 u2 u3 u4 u5 v0 v1 v2 v3 v4 v5 Z0 Z1 Z2 K0 K1 K2
  obtain ⟨y0, y1, y2, y3, y4, y5⟩ := T3.out.cells
  go_wp2_with (first
    | (go_at_call 28; with_reducible refine (hba _).mono ?_; rintro e w4 ⟨rfl, h4⟩; have H4 := Lib.hid h4; clear h4; obtain ⟨u0, u1, u2, u3, u4, u5⟩ := (T3.out.below H4.out).cells)
    | (go_at_call 29; refine (hrf _).mono ?_; rintro e w5 ⟨rfl, h5⟩; have H5 := Lib.hid h5; clear h5)
    | (go_at_call 16; refine (awake_any _).mono ?_; rintro e w6 ⟨rfl, h6⟩; have H6 := Lib.hid h6; clear h6))
  go_ret
  exact ⟨rfl, below_trans (below_trans (below_trans (below_trans (below_trans (below_trans HB.out.drew H1.out) H2.out) H3.out) H4.out) H5.out) H6.out⟩

set_option maxRecDepth 100000 in
set_option maxHeartbeats 16000000 in
theorem order_mnp (k1 : Int) (t1 : ByteArray) (k2 : Int) (t2 : ByteArray) (k3 : Int) (t3 : ByteArray) (y z : Int) (w : World) (hab : Cmp 28 k1 t1 k2 t2 (-1)) (hbc : Cmp 28 k2 t2 k3 t3 y) (hac : Cmp 28 k1 t1 k3 t3 z) (hba : Cmp 28 k2 t2 k1 t1 (-(-1))) (hrf : Cmp 29 k1 t1 k2 t2 (-1))
    (heq : ∀ w, (binOp .eql 23 (.agg #[.int .i64 k1, .string t1]) (.agg #[.int .i64 k2, .string t2])).run Tryd.prog w = .ok (.bool false) w) (d1 : (k1 != 0) = false) (d2 : (k2 != 1) = true) (d3 : decide (y > 0) = true) :
    Calls Tryd.prog 9 #[.agg #[.int .i64 k1, .string t1], .agg #[.int .i64 k2, .string t2], .agg #[.int .i64 k3, .string t3]] w fun e w' => e = .returned (.bool true) ∧ Below w.heap.size w w' := by
  unfold Cmp at hab hbc hac hba hrf
  have T0 := Lib.hid (Tri.start w k1 t1 k2 t2 k3 t3)
  have HB := Lib.hid (below_alloc (below_alloc ((Below.refl w.heap.size w).alloc (Nat.le_refl _) (.cells #[.int .i64 k1, .string t1] 23)) (.cells #[.int .i64 k2, .string t2] 23)) (.cells #[.int .i64 k3, .string t3] 23))
  go_enter Tryd.func9, Tryd.ntmps9
  go_upto_region 1 with fail
  generalize ((w.alloc (.cells #[.int .i64 k1, .string t1] 23)).alloc (.cells #[.int .i64 k2, .string t2] 23)).alloc (.cells #[.int .i64 k3, .string t3] 23) = w0 at *
  have K0 := Lib.hid (show (fun b => b < w0.heap.size) w.heap.size from T0.out.a.lt)
  have K1 := Lib.hid (show (fun b => b < w0.heap.size) (w.heap.size + 1) from T0.out.b.lt)
  have K2 := Lib.hid (show (fun b => b < w0.heap.size) (w.heap.size + 2) from T0.out.c.lt)
  obtain ⟨y0, y1, y2, y3, y4, y5⟩ := T0.out.drew.cells
  have Z0 := Lib.hid y0
  have Z1 := Lib.hid y2
  have Z2 := Lib.hid y4
  go_upto_region 2 with (first
    | ((with_reducible refine Lex.at_finK ?_); refine LexK.finE_on (by kernel_rfl) (by repeat first | exact LexK.finL_nil | refine LexK.finL_none rfl ?_ | refine LexK.finL_skip (by decide +kernel) ?_ | refine LexK.finL_take rfl K0.out Z0.out ?_ | refine LexK.finL_take rfl K1.out Z1.out ?_ | refine LexK.finL_take rfl K2.out Z2.out ?_) ?_)
    | ((with_reducible refine Lex.at_region ?_); refine LexK.wp_region_lexE (fun b => b < w0.heap.size) (by kernel_rfl) (by decide +kernel) ?_)
    | ((with_reducible refine Lex.at_wpX ?_); with_reducible refine LexK.wpX_plain (by decide +kernel) ?_)
    | ((with_reducible refine Lex.at_wpX ?_); with_reducible refine LexK.wpX_call ?_)
    | ((with_reducible refine Lex.at_wpX ?_); with_reducible refine LexK.wpX_nil ?_)
    | ((with_reducible refine Lex.at_ext ?_); with_reducible refine LexK.ext_on (LexK.Ext.of_below H1.out (Nat.le_refl _)) ?_)
    | ((with_reducible refine Lex.at_ext ?_); with_reducible refine LexK.ext_on (LexK.Ext.of_below H2.out (Nat.le_refl _)) ?_)
    | ((with_reducible refine Lex.at_ext ?_); with_reducible refine LexK.ext_on (LexK.Ext.of_below H3.out (Nat.le_refl _)) ?_)
    | (go_at_call 28; first
        | (with_reducible refine (hab _).mono ?_; rintro e w1 ⟨rfl, h1⟩; have H1 := Lib.hid h1; clear h1; have T1 := Lib.hid (T0.out.drew.below H1.out); obtain ⟨u0, u1, u2, u3, u4, u5⟩ := T1.out.cells)
        | (with_reducible refine (hbc _).mono ?_; rintro e w2 ⟨rfl, h2⟩; have H2 := Lib.hid h2; clear h2; have T2 := Lib.hid (T1.out.below H2.out); obtain ⟨v0, v1, v2, v3, v4, v5⟩ := T2.out.cells)
        | (with_reducible refine (hac _).mono ?_; rintro e w3 ⟨rfl, h3⟩; have H3 := Lib.hid h3; clear h3; have T3 := Lib.hid (T2.out.below H3.out))))
  clear y0 y1 y2 y3 y4 y5 u0 u1 u2 u3 u4 u5 v0 v1 v2 v3 v4 v5 Z0 Z1 Z2 K0 K1 K2
  obtain ⟨y0, y1, y2, y3, y4, y5⟩ := T3.out.cells
  go_wp2_with (first
    | (go_at_call 28; with_reducible refine (hba _).mono ?_; rintro e w4 ⟨rfl, h4⟩; have H4 := Lib.hid h4; clear h4; obtain ⟨u0, u1, u2, u3, u4, u5⟩ := (T3.out.below H4.out).cells)
    | (go_at_call 29; refine (hrf _).mono ?_; rintro e w5 ⟨rfl, h5⟩; have H5 := Lib.hid h5; clear h5)
    | (go_at_call 16; refine (awake_any _).mono ?_; rintro e w6 ⟨rfl, h6⟩; have H6 := Lib.hid h6; clear h6))
  go_ret
  exact ⟨rfl, below_trans (below_trans (below_trans (below_trans (below_trans (below_trans HB.out.drew H1.out) H2.out) H3.out) H4.out) H5.out) H6.out⟩

set_option maxRecDepth 100000 in
set_option maxHeartbeats 16000000 in
theorem order_mnn (k1 : Int) (t1 : ByteArray) (k2 : Int) (t2 : ByteArray) (k3 : Int) (t3 : ByteArray) (y z : Int) (w : World) (hab : Cmp 28 k1 t1 k2 t2 (-1)) (hbc : Cmp 28 k2 t2 k3 t3 y) (hac : Cmp 28 k1 t1 k3 t3 z) (hba : Cmp 28 k2 t2 k1 t1 (-(-1))) (hrf : Cmp 29 k1 t1 k2 t2 (-1))
    (heq : ∀ w, (binOp .eql 23 (.agg #[.int .i64 k1, .string t1]) (.agg #[.int .i64 k2, .string t2])).run Tryd.prog w = .ok (.bool false) w) (d1 : (k1 != 0) = false) (d2 : (k2 != 1) = true) (d3 : decide (y > 0) = false) (d4 : decide (z ≤ 0) = true) (d5 : decide (z < 0) = true) :
    Calls Tryd.prog 9 #[.agg #[.int .i64 k1, .string t1], .agg #[.int .i64 k2, .string t2], .agg #[.int .i64 k3, .string t3]] w fun e w' => e = .returned (.bool true) ∧ Below w.heap.size w w' := by
  unfold Cmp at hab hbc hac hba hrf
  have T0 := Lib.hid (Tri.start w k1 t1 k2 t2 k3 t3)
  have HB := Lib.hid (below_alloc (below_alloc ((Below.refl w.heap.size w).alloc (Nat.le_refl _) (.cells #[.int .i64 k1, .string t1] 23)) (.cells #[.int .i64 k2, .string t2] 23)) (.cells #[.int .i64 k3, .string t3] 23))
  go_enter Tryd.func9, Tryd.ntmps9
  go_upto_region 1 with fail
  generalize ((w.alloc (.cells #[.int .i64 k1, .string t1] 23)).alloc (.cells #[.int .i64 k2, .string t2] 23)).alloc (.cells #[.int .i64 k3, .string t3] 23) = w0 at *
  have K0 := Lib.hid (show (fun b => b < w0.heap.size) w.heap.size from T0.out.a.lt)
  have K1 := Lib.hid (show (fun b => b < w0.heap.size) (w.heap.size + 1) from T0.out.b.lt)
  have K2 := Lib.hid (show (fun b => b < w0.heap.size) (w.heap.size + 2) from T0.out.c.lt)
  obtain ⟨y0, y1, y2, y3, y4, y5⟩ := T0.out.drew.cells
  have Z0 := Lib.hid y0
  have Z1 := Lib.hid y2
  have Z2 := Lib.hid y4
  go_upto_region 2 with (first
    | ((with_reducible refine Lex.at_finK ?_); refine LexK.finE_on (by kernel_rfl) (by repeat first | exact LexK.finL_nil | refine LexK.finL_none rfl ?_ | refine LexK.finL_skip (by decide +kernel) ?_ | refine LexK.finL_take rfl K0.out Z0.out ?_ | refine LexK.finL_take rfl K1.out Z1.out ?_ | refine LexK.finL_take rfl K2.out Z2.out ?_) ?_)
    | ((with_reducible refine Lex.at_region ?_); refine LexK.wp_region_lexE (fun b => b < w0.heap.size) (by kernel_rfl) (by decide +kernel) ?_)
    | ((with_reducible refine Lex.at_wpX ?_); with_reducible refine LexK.wpX_plain (by decide +kernel) ?_)
    | ((with_reducible refine Lex.at_wpX ?_); with_reducible refine LexK.wpX_call ?_)
    | ((with_reducible refine Lex.at_wpX ?_); with_reducible refine LexK.wpX_nil ?_)
    | ((with_reducible refine Lex.at_ext ?_); with_reducible refine LexK.ext_on (LexK.Ext.of_below H1.out (Nat.le_refl _)) ?_)
    | ((with_reducible refine Lex.at_ext ?_); with_reducible refine LexK.ext_on (LexK.Ext.of_below H2.out (Nat.le_refl _)) ?_)
    | ((with_reducible refine Lex.at_ext ?_); with_reducible refine LexK.ext_on (LexK.Ext.of_below H3.out (Nat.le_refl _)) ?_)
    | (go_at_call 28; first
        | (with_reducible refine (hab _).mono ?_; rintro e w1 ⟨rfl, h1⟩; have H1 := Lib.hid h1; clear h1; have T1 := Lib.hid (T0.out.drew.below H1.out); obtain ⟨u0, u1, u2, u3, u4, u5⟩ := T1.out.cells)
        | (with_reducible refine (hbc _).mono ?_; rintro e w2 ⟨rfl, h2⟩; have H2 := Lib.hid h2; clear h2; have T2 := Lib.hid (T1.out.below H2.out); obtain ⟨v0, v1, v2, v3, v4, v5⟩ := T2.out.cells)
        | (with_reducible refine (hac _).mono ?_; rintro e w3 ⟨rfl, h3⟩; have H3 := Lib.hid h3; clear h3; have T3 := Lib.hid (T2.out.below H3.out))))
  clear y0 y1 y2 y3 y4 y5 u0 u1 u2 u3 u4 u5 v0 v1 v2 v3 v4 v5 Z0 Z1 Z2 K0 K1 K2
  obtain ⟨y0, y1, y2, y3, y4, y5⟩ := T3.out.cells
  go_wp2_with (first
    | (go_at_call 28; with_reducible refine (hba _).mono ?_; rintro e w4 ⟨rfl, h4⟩; have H4 := Lib.hid h4; clear h4; obtain ⟨u0, u1, u2, u3, u4, u5⟩ := (T3.out.below H4.out).cells)
    | (go_at_call 29; refine (hrf _).mono ?_; rintro e w5 ⟨rfl, h5⟩; have H5 := Lib.hid h5; clear h5)
    | (go_at_call 16; refine (awake_any _).mono ?_; rintro e w6 ⟨rfl, h6⟩; have H6 := Lib.hid h6; clear h6))
  go_ret
  exact ⟨rfl, below_trans (below_trans (below_trans (below_trans (below_trans (below_trans HB.out.drew H1.out) H2.out) H3.out) H4.out) H5.out) H6.out⟩

set_option maxRecDepth 100000 in
set_option maxHeartbeats 16000000 in
theorem order_enp (k1 : Int) (t1 : ByteArray) (k2 : Int) (t2 : ByteArray) (k3 : Int) (t3 : ByteArray) (y z : Int) (w : World) (hab : Cmp 28 k1 t1 k2 t2 (-1)) (hbc : Cmp 28 k2 t2 k3 t3 y) (hac : Cmp 28 k1 t1 k3 t3 z) (hba : Cmp 28 k2 t2 k1 t1 (-(-1))) (hrf : Cmp 29 k1 t1 k2 t2 (-1))
    (heq : ∀ w, (binOp .eql 23 (.agg #[.int .i64 k1, .string t1]) (.agg #[.int .i64 k2, .string t2])).run Tryd.prog w = .ok (.bool false) w) (d1 : (k1 != 0) = false) (d2 : (k2 != 1) = false) (d3 : decide (y > 0) = true) :
    Calls Tryd.prog 9 #[.agg #[.int .i64 k1, .string t1], .agg #[.int .i64 k2, .string t2], .agg #[.int .i64 k3, .string t3]] w fun e w' => e = .returned (.bool true) ∧ Below w.heap.size w w' := by
  unfold Cmp at hab hbc hac hba hrf
  have T0 := Lib.hid (Tri.start w k1 t1 k2 t2 k3 t3)
  have HB := Lib.hid (below_alloc (below_alloc ((Below.refl w.heap.size w).alloc (Nat.le_refl _) (.cells #[.int .i64 k1, .string t1] 23)) (.cells #[.int .i64 k2, .string t2] 23)) (.cells #[.int .i64 k3, .string t3] 23))
  go_enter Tryd.func9, Tryd.ntmps9
  go_upto_region 1 with fail
  generalize ((w.alloc (.cells #[.int .i64 k1, .string t1] 23)).alloc (.cells #[.int .i64 k2, .string t2] 23)).alloc (.cells #[.int .i64 k3, .string t3] 23) = w0 at *
  have K0 := Lib.hid (show (fun b => b < w0.heap.size) w.heap.size from T0.out.a.lt)
  have K1 := Lib.hid (show (fun b => b < w0.heap.size) (w.heap.size + 1) from T0.out.b.lt)
  have K2 := Lib.hid (show (fun b => b < w0.heap.size) (w.heap.size + 2) from T0.out.c.lt)
  obtain ⟨y0, y1, y2, y3, y4, y5⟩ := T0.out.drew.cells
  have Z0 := Lib.hid y0
  have Z1 := Lib.hid y2
  have Z2 := Lib.hid y4
  go_upto_region 2 with (first
    | ((with_reducible refine Lex.at_finK ?_); refine LexK.finE_on (by kernel_rfl) (by repeat first | exact LexK.finL_nil | refine LexK.finL_none rfl ?_ | refine LexK.finL_skip (by decide +kernel) ?_ | refine LexK.finL_take rfl K0.out Z0.out ?_ | refine LexK.finL_take rfl K1.out Z1.out ?_ | refine LexK.finL_take rfl K2.out Z2.out ?_) ?_)
    | ((with_reducible refine Lex.at_region ?_); refine LexK.wp_region_lexE (fun b => b < w0.heap.size) (by kernel_rfl) (by decide +kernel) ?_)
    | ((with_reducible refine Lex.at_wpX ?_); with_reducible refine LexK.wpX_plain (by decide +kernel) ?_)
    | ((with_reducible refine Lex.at_wpX ?_); with_reducible refine LexK.wpX_call ?_)
    | ((with_reducible refine Lex.at_wpX ?_); with_reducible refine LexK.wpX_nil ?_)
    | ((with_reducible refine Lex.at_ext ?_); with_reducible refine LexK.ext_on (LexK.Ext.of_below H1.out (Nat.le_refl _)) ?_)
    | ((with_reducible refine Lex.at_ext ?_); with_reducible refine LexK.ext_on (LexK.Ext.of_below H2.out (Nat.le_refl _)) ?_)
    | ((with_reducible refine Lex.at_ext ?_); with_reducible refine LexK.ext_on (LexK.Ext.of_below H3.out (Nat.le_refl _)) ?_)
    | (go_at_call 28; first
        | (with_reducible refine (hab _).mono ?_; rintro e w1 ⟨rfl, h1⟩; have H1 := Lib.hid h1; clear h1; have T1 := Lib.hid (T0.out.drew.below H1.out); obtain ⟨u0, u1, u2, u3, u4, u5⟩ := T1.out.cells)
        | (with_reducible refine (hbc _).mono ?_; rintro e w2 ⟨rfl, h2⟩; have H2 := Lib.hid h2; clear h2; have T2 := Lib.hid (T1.out.below H2.out); obtain ⟨v0, v1, v2, v3, v4, v5⟩ := T2.out.cells)
        | (with_reducible refine (hac _).mono ?_; rintro e w3 ⟨rfl, h3⟩; have H3 := Lib.hid h3; clear h3; have T3 := Lib.hid (T2.out.below H3.out))))
  clear y0 y1 y2 y3 y4 y5 u0 u1 u2 u3 u4 u5 v0 v1 v2 v3 v4 v5 Z0 Z1 Z2 K0 K1 K2
  obtain ⟨y0, y1, y2, y3, y4, y5⟩ := T3.out.cells
  go_wp2_with (first
    | (go_at_call 28; with_reducible refine (hba _).mono ?_; rintro e w4 ⟨rfl, h4⟩; have H4 := Lib.hid h4; clear h4; obtain ⟨u0, u1, u2, u3, u4, u5⟩ := (T3.out.below H4.out).cells)
    | (go_at_call 29; refine (hrf _).mono ?_; rintro e w5 ⟨rfl, h5⟩; have H5 := Lib.hid h5; clear h5)
    | (go_at_call 16; refine (awake_any _).mono ?_; rintro e w6 ⟨rfl, h6⟩; have H6 := Lib.hid h6; clear h6))
  go_ret
  exact ⟨rfl, below_trans (below_trans (below_trans (below_trans (below_trans (below_trans HB.out.drew H1.out) H2.out) H3.out) H4.out) H5.out) H6.out⟩

set_option maxRecDepth 100000 in
set_option maxHeartbeats 16000000 in
theorem order_enn (k1 : Int) (t1 : ByteArray) (k2 : Int) (t2 : ByteArray) (k3 : Int) (t3 : ByteArray) (y z : Int) (w : World) (hab : Cmp 28 k1 t1 k2 t2 (-1)) (hbc : Cmp 28 k2 t2 k3 t3 y) (hac : Cmp 28 k1 t1 k3 t3 z) (hba : Cmp 28 k2 t2 k1 t1 (-(-1))) (hrf : Cmp 29 k1 t1 k2 t2 (-1))
    (heq : ∀ w, (binOp .eql 23 (.agg #[.int .i64 k1, .string t1]) (.agg #[.int .i64 k2, .string t2])).run Tryd.prog w = .ok (.bool false) w) (d1 : (k1 != 0) = false) (d2 : (k2 != 1) = false) (d3 : decide (y > 0) = false) (d4 : decide (z ≤ 0) = true) (d5 : decide (z < 0) = true) :
    Calls Tryd.prog 9 #[.agg #[.int .i64 k1, .string t1], .agg #[.int .i64 k2, .string t2], .agg #[.int .i64 k3, .string t3]] w fun e w' => e = .returned (.bool true) ∧ Below w.heap.size w w' := by
  unfold Cmp at hab hbc hac hba hrf
  have T0 := Lib.hid (Tri.start w k1 t1 k2 t2 k3 t3)
  have HB := Lib.hid (below_alloc (below_alloc ((Below.refl w.heap.size w).alloc (Nat.le_refl _) (.cells #[.int .i64 k1, .string t1] 23)) (.cells #[.int .i64 k2, .string t2] 23)) (.cells #[.int .i64 k3, .string t3] 23))
  go_enter Tryd.func9, Tryd.ntmps9
  go_upto_region 1 with fail
  generalize ((w.alloc (.cells #[.int .i64 k1, .string t1] 23)).alloc (.cells #[.int .i64 k2, .string t2] 23)).alloc (.cells #[.int .i64 k3, .string t3] 23) = w0 at *
  have K0 := Lib.hid (show (fun b => b < w0.heap.size) w.heap.size from T0.out.a.lt)
  have K1 := Lib.hid (show (fun b => b < w0.heap.size) (w.heap.size + 1) from T0.out.b.lt)
  have K2 := Lib.hid (show (fun b => b < w0.heap.size) (w.heap.size + 2) from T0.out.c.lt)
  obtain ⟨y0, y1, y2, y3, y4, y5⟩ := T0.out.drew.cells
  have Z0 := Lib.hid y0
  have Z1 := Lib.hid y2
  have Z2 := Lib.hid y4
  go_upto_region 2 with (first
    | ((with_reducible refine Lex.at_finK ?_); refine LexK.finE_on (by kernel_rfl) (by repeat first | exact LexK.finL_nil | refine LexK.finL_none rfl ?_ | refine LexK.finL_skip (by decide +kernel) ?_ | refine LexK.finL_take rfl K0.out Z0.out ?_ | refine LexK.finL_take rfl K1.out Z1.out ?_ | refine LexK.finL_take rfl K2.out Z2.out ?_) ?_)
    | ((with_reducible refine Lex.at_region ?_); refine LexK.wp_region_lexE (fun b => b < w0.heap.size) (by kernel_rfl) (by decide +kernel) ?_)
    | ((with_reducible refine Lex.at_wpX ?_); with_reducible refine LexK.wpX_plain (by decide +kernel) ?_)
    | ((with_reducible refine Lex.at_wpX ?_); with_reducible refine LexK.wpX_call ?_)
    | ((with_reducible refine Lex.at_wpX ?_); with_reducible refine LexK.wpX_nil ?_)
    | ((with_reducible refine Lex.at_ext ?_); with_reducible refine LexK.ext_on (LexK.Ext.of_below H1.out (Nat.le_refl _)) ?_)
    | ((with_reducible refine Lex.at_ext ?_); with_reducible refine LexK.ext_on (LexK.Ext.of_below H2.out (Nat.le_refl _)) ?_)
    | ((with_reducible refine Lex.at_ext ?_); with_reducible refine LexK.ext_on (LexK.Ext.of_below H3.out (Nat.le_refl _)) ?_)
    | (go_at_call 28; first
        | (with_reducible refine (hab _).mono ?_; rintro e w1 ⟨rfl, h1⟩; have H1 := Lib.hid h1; clear h1; have T1 := Lib.hid (T0.out.drew.below H1.out); obtain ⟨u0, u1, u2, u3, u4, u5⟩ := T1.out.cells)
        | (with_reducible refine (hbc _).mono ?_; rintro e w2 ⟨rfl, h2⟩; have H2 := Lib.hid h2; clear h2; have T2 := Lib.hid (T1.out.below H2.out); obtain ⟨v0, v1, v2, v3, v4, v5⟩ := T2.out.cells)
        | (with_reducible refine (hac _).mono ?_; rintro e w3 ⟨rfl, h3⟩; have H3 := Lib.hid h3; clear h3; have T3 := Lib.hid (T2.out.below H3.out))))
  clear y0 y1 y2 y3 y4 y5 u0 u1 u2 u3 u4 u5 v0 v1 v2 v3 v4 v5 Z0 Z1 Z2 K0 K1 K2
  obtain ⟨y0, y1, y2, y3, y4, y5⟩ := T3.out.cells
  go_wp2_with (first
    | (go_at_call 28; with_reducible refine (hba _).mono ?_; rintro e w4 ⟨rfl, h4⟩; have H4 := Lib.hid h4; clear h4; obtain ⟨u0, u1, u2, u3, u4, u5⟩ := (T3.out.below H4.out).cells)
    | (go_at_call 29; refine (hrf _).mono ?_; rintro e w5 ⟨rfl, h5⟩; have H5 := Lib.hid h5; clear h5)
    | (go_at_call 16; refine (awake_any _).mono ?_; rintro e w6 ⟨rfl, h6⟩; have H6 := Lib.hid h6; clear h6))
  go_ret
  exact ⟨rfl, below_trans (below_trans (below_trans (below_trans (below_trans (below_trans HB.out.drew H1.out) H2.out) H3.out) H4.out) H5.out) H6.out⟩

theorem order_walk (k1 : Int) (t1 : ByteArray) (k2 : Int) (t2 : ByteArray) (k3 : Int) (t3 : ByteArray) (w : World) :
    Calls Tryd.prog 9 #[.agg #[.int .i64 k1, .string t1], .agg #[.int .i64 k2, .string t2], .agg #[.int .i64 k3, .string t3]] w fun e w' => e = .returned (.bool true) ∧ Below w.heap.size w w' := by
  have hab : Cmp 28 k1 t1 k2 t2 _ := compareKeys_any k1 t1 k2 t2
  have hbc : Cmp 28 k2 t2 k3 t3 _ := compareKeys_any k2 t2 k3 t3
  have hac : Cmp 28 k1 t1 k3 t3 _ := compareKeys_any k1 t1 k3 t3
  have hba : Cmp 28 k2 t2 k1 t1 _ := compareKeys_any k2 t2 k1 t1
  have hrf : Cmp 29 k1 t1 k2 t2 _ := refCompareKeys_any k1 t1 k2 t2
  rw [ck_neg] at hba
  have htr := ck_trans (k := k1) (t := t1.data.toList) (k2 := k2) (t2 := t2.data.toList) (k3 := k3) (t3 := t3.data.toList)
  have hz := ck_zero (k := k1) (t := t1.data.toList) (k2 := k2) (t2 := t2.data.toList)
  have hkk : k1 = 0 → k2 = 1 → cmpK k1 t1.data.toList k2 t2.data.toList = -1 := by
    rintro rfl rfl; rfl
  have heq : ∀ (w : World), (binOp .eql 23 (.agg #[.int .i64 k1, .string t1]) (.agg #[.int .i64 k2, .string t2])).run Tryd.prog w = .ok (.bool (decide (cmpK k1 t1.data.toList k2 t2.data.toList = 0))) w := by
    intro w
    rw [run_eql_key]
    by_cases h : cmpK k1 t1.data.toList k2 t2.data.toList = 0
    · obtain ⟨rfl, h2⟩ := hz h
      have : t1.toList = t2.toList := by rw [← list_eq, ← list_eq]; exact h2
      rw [decide_eq_true h, this]; simp
    · rw [decide_eq_false h]
      by_cases hk : k1 = k2
      · subst hk
        have : t1.toList ≠ t2.toList := by
          rw [← list_eq, ← list_eq]
          intro h2
          rw [h2] at h
          exact h (ck_refl _ _)
        simp [this]
      · simp [hk]
  have hx := ck_range k1 t1.data.toList k2 t2.data.toList
  generalize cmpK k1 t1.data.toList k2 t2.data.toList = x at *
  generalize cmpK k2 t2.data.toList k3 t3.data.toList = y at *
  generalize cmpK k1 t1.data.toList k3 t3.data.toList = z at *
  rcases hx with rfl | rfl | rfl
  · have ht : ¬ y > 0 → z < 0 := fun hy => by have := htr (by decide) (by omega); omega
    by_cases hy : y > 0
    · by_cases h1 : k1 = 0
      · by_cases h2 : k2 = 1
        · exact order_enp k1 t1 k2 t2 k3 t3 y z w hab hbc hac hba hrf heq (by simpa using h1) (by simpa using h2) (by simpa using hy)
        · exact order_mnp k1 t1 k2 t2 k3 t3 y z w hab hbc hac hba hrf heq (by simpa using h1) (by simpa using h2) (by simpa using hy)
      · exact order_nnp k1 t1 k2 t2 k3 t3 y z w hab hbc hac hba hrf heq (by simpa using h1) (by simpa using hy)
    · have hzn := ht hy
      by_cases h1 : k1 = 0
      · by_cases h2 : k2 = 1
        · exact order_enn k1 t1 k2 t2 k3 t3 y z w hab hbc hac hba hrf heq (by simpa using h1) (by simpa using h2) (by simpa using hy) (by simp; omega) (by simpa using hzn)
        · exact order_mnn k1 t1 k2 t2 k3 t3 y z w hab hbc hac hba hrf heq (by simpa using h1) (by simpa using h2) (by simpa using hy) (by simp; omega) (by simpa using hzn)
      · exact order_nnn k1 t1 k2 t2 k3 t3 y z w hab hbc hac hba hrf heq (by simpa using h1) (by simpa using hy) (by simp; omega) (by simpa using hzn)
  · have ht : ¬ y > 0 → z ≤ 0 := fun hy => (htr (by decide) (by omega)).1
    have h3 : ¬ (k1 = 0 ∧ k2 = 1) := fun h => by have := hkk h.1 h.2; omega
    by_cases hy : y > 0
    · by_cases h1 : k1 = 0
      · exact order_mzp k1 t1 k2 t2 k3 t3 y z w hab hbc hac hba hrf heq (by simpa using h1) (by simp; exact fun h => h3 ⟨h1, h⟩) (by simpa using hy)
      · exact order_nzp k1 t1 k2 t2 k3 t3 y z w hab hbc hac hba hrf heq (by simpa using h1) (by simpa using hy)
    · have hzn := ht hy
      by_cases h1 : k1 = 0
      · exact order_mzn k1 t1 k2 t2 k3 t3 y z w hab hbc hac hba hrf heq (by simpa using h1) (by simp; exact fun h => h3 ⟨h1, h⟩) (by simpa using hy) (by simpa using hzn)
      · exact order_nzn k1 t1 k2 t2 k3 t3 y z w hab hbc hac hba hrf heq (by simpa using h1) (by simpa using hy) (by simpa using hzn)
  · have h3 : ¬ (k1 = 0 ∧ k2 = 1) := fun h => by have := hkk h.1 h.2; omega
    by_cases h1 : k1 = 0
    · exact order_mp k1 t1 k2 t2 k3 t3 y z w hab hbc hac hba hrf heq (by simpa using h1) (by simp; exact fun h => h3 ⟨h1, h⟩)
    · exact order_np k1 t1 k2 t2 k3 t3 y z w hab hbc hac hba hrf heq (by simpa using h1)
end Go.Proofs.YtejiagmfinhjbaaDoor
