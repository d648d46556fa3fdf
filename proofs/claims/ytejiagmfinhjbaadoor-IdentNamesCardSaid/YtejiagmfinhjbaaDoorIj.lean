/-
  Walks: the law of names.
-/
import Derived.Test.YtejiagmfinhjbaaDoorIi
import Derived.Test.YtejiagmfinhjbaaDoorLexK
namespace Go.Proofs.YtejiagmfinhjbaaDoor
open Go.RowKit Go.Ident

set_option maxRecDepth 100000 in
set_option maxHeartbeats 8000000 in
theorem names_walk (s : ByteArray) (k : Int) (t : ByteArray) (w : World) : Calls Tryd.prog 3 #[.string s, .agg #[.int .i64 k, .string t]] w fun e w' => e = .returned (.bool true) ∧ Below w.heap.size w w' := by
  have hA := isAtom_any s
  have hA2 := refIsAtom_any s
  have hV := isVariable_any s
  have hV2 := refIsVariable_any s
  have hK := validKey_any k t
  have hK2 := refValidKey_any k t
  generalize isAtm s.data.toList = b1 at *
  generalize isVrb s.data.toList = b2 at *
  generalize valK k t.data.toList = b3 at *
  have hB0 := (Below.refl w.heap.size w).alloc (Nat.le_refl _) (.cells #[.int .i64 k, .string t] 23)
  have HB0 := Lib.hid hB0; clear hB0
  have hg0 := heap_alloc_new w (.cells #[.int .i64 k, .string t] 23)
  have Hg0 := Lib.hid hg0; clear hg0
  have Hs0 := Lib.hid (show w.heap.size < (w.alloc (.cells #[.int .i64 k, .string t] 23)).heap.size by simp)
  go_enter Tryd.func3, Tryd.ntmps3
  go_upto_region 1 with fail
  generalize w.alloc (.cells #[.int .i64 k, .string t] 23) = w0 at *
  have z0 := Lib.hid (show w0.drew.cell? ⟨w.heap.size, 0, none⟩ = some (.int .i64 k) from cell_of_row _ _ _ _ _ _ Hg0.out)
  have y0 : w0.drew.cell? ⟨w.heap.size, 0, none⟩ = some (.int .i64 k) := z0.out
  have y1 : w0.drew.cell? ⟨w.heap.size, 1, none⟩ = some (.string t) := cell_of_row _ _ _ _ _ _ Hg0.out
  go_wp2_with (first
    | ((with_reducible refine Lex.at_finK ?_); refine LexK.finE_on (by kernel_rfl) (by repeat first | exact LexK.finL_nil | refine LexK.finL_none rfl ?_ | refine LexK.finL_skip (by decide +kernel) ?_ | refine LexK.finL_take rfl rfl z0.out ?_) ?_)
    | ((with_reducible refine Lex.at_region ?_); refine LexK.wp_region_lexE (fun b => b = w.heap.size) (by kernel_rfl) (by decide +kernel) ?_)
    | ((with_reducible refine Lex.at_wpX ?_); with_reducible refine LexK.wpX_plain (by decide +kernel) ?_)
    | ((with_reducible refine Lex.at_wpX ?_); with_reducible refine LexK.wpX_call ?_)
    | ((with_reducible refine Lex.at_wpX ?_); with_reducible refine LexK.wpX_nil ?_)
    | ((with_reducible refine Lex.at_ext ?_); with_reducible refine LexK.ext_on (LexK.Ext.of_below Hb1.out (Nat.le_refl _)) ?_)
    | ((with_reducible refine Lex.at_ext ?_); with_reducible refine LexK.ext_on (LexK.Ext.of_below Hb2.out (Nat.le_refl _)) ?_)
    | ((with_reducible refine Lex.at_ext ?_); with_reducible refine LexK.ext_on (LexK.Ext.of_below Hb3.out (Nat.le_refl _)) ?_)
    | ((with_reducible refine Lex.at_ext ?_); with_reducible refine LexK.ext_on (LexK.Ext.refl _) ?_)
    | (go_at_call 10; refine (hA _).mono ?_; rintro e w1 ⟨rfl, rfl⟩)
    | (go_at_call 11; refine (hA2 _).mono ?_; rintro e w1 ⟨rfl, rfl⟩)
    | (go_at_call 12; refine (hV _).mono ?_; rintro e w1 ⟨rfl, rfl⟩)
    | (go_at_call 13; refine (hV2 _).mono ?_; rintro e w1 ⟨rfl, rfl⟩)
    | (go_at_call 14; refine (hK _).mono ?_; rintro e w1 ⟨rfl, hb1⟩; have Hb1 := Lib.hid hb1; clear hb1; have Hg1 := Lib.hid ((Hb1.out.block _ Hs0.out).trans Hg0.out); have y2 : w1.cell? ⟨w.heap.size, 0, none⟩ = some (.int .i64 k) := cell_of_row _ _ _ _ _ _ Hg1.out; have y3 : w1.cell? ⟨w.heap.size, 1, none⟩ = some (.string t) := cell_of_row _ _ _ _ _ _ Hg1.out)
    | (go_at_call 15; refine (hK2 _).mono ?_; rintro e w2 ⟨rfl, hb2⟩; have Hb2 := Lib.hid hb2; clear hb2)
    | (go_at_call 16; refine (awake_any _).mono ?_; rintro e w3 ⟨rfl, hb3⟩; have Hb3 := Lib.hid hb3; clear hb3))
  go_ret
  exact ⟨rfl, below_trans (below_trans (below_trans HB0.out.drew Hb1.out) Hb2.out) Hb3.out⟩
end Go.Proofs.YtejiagmfinhjbaaDoor
