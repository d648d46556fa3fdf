/-
  Walks: StoreFrames.
-/
import Derived.Test.YtmflngpgmmgohaaSp
import Derived.Test.YtmflngpgmmgohaaSq
namespace Go.Proofs.Ytmflngpgmmgohaa
open Go.RowKit

theorem _root_.Go.RowKit.Below.step {w b c : World} (h : Below w.heap.size w b) (k : Below b.heap.size b c) : Below w.heap.size w c := h.trans (k.mono h.size)
/-- The record and the list's one element stay where they are. -/
theorem slice_cells {k d : ByteArray} {B : Nat} {w1 w2 w3 : World} {p : Option Addr} {cap : Nat} (hb2 : Below (w1.alloc (.cells #[.string k, .string d] 44)).heap.size (w1.alloc (.cells #[.string k, .string d] 44)) w2) (hb3 : Below w2.heap.size w2 w3)
    (hown : w3.ownsRow B 44 2 (.slice p 1 cap) 1 (recCells [(k, d)])) :
    ∃ g, p = some ⟨g, 0, none⟩ ∧ ∀ w', Lex.Ext w3 w' → w'.cell? ⟨w1.heap.size, 0, none⟩ = some (.string k) ∧ w'.cell? ⟨w1.heap.size, 1, none⟩ = some (.string d) ∧ w'.cell? ⟨g, 0, none⟩ = some (.string k) ∧ w'.cell? ⟨g, 1, none⟩ = some (.string d) := by
  have hp : ∃ g, p = some ⟨g, 0, none⟩ := by
    rcases hown.2 with ⟨_, h0⟩ | ⟨g, c, cur, h1, _⟩
    · omega
    · simp only [Value.slice.injEq] at h1; exact ⟨g, h1.1⟩
  obtain ⟨g, rfl⟩ := hp
  have c0 := hown.cellAt 0 (by omega)
  have c1 := hown.cellAt 1 (by omega)
  have hg : w3.heap[w1.heap.size]? = some (.cells #[.string k, .string d] 44) := by
    have h2 : w1.heap.size < (w1.alloc (.cells #[.string k, .string d] 44)).heap.size := by simp
    rw [hb3.block _ (Nat.lt_of_lt_of_le h2 hb2.size), hb2.block _ h2]; exact heap_alloc_new _ _
  have d0 : w3.cell? ⟨w1.heap.size, 0, none⟩ = some (.string k) := cell_of_row _ _ _ _ _ _ hg
  have d1 : w3.cell? ⟨w1.heap.size, 1, none⟩ = some (.string d) := cell_of_row _ _ _ _ _ _ hg
  refine ⟨g, rfl, fun w' hx => ⟨(hx.cell d0 ⟨w1.heap.size, 0, none⟩ rfl).trans d0, (hx.cell d1 ⟨w1.heap.size, 1, none⟩ rfl).trans d1, (hx.cell c0 ⟨g, 0, none⟩ rfl).trans c0, (hx.cell c1 ⟨g, 1, none⟩ rfl).trans c1⟩⟩

set_option maxRecDepth 100000 in
set_option maxHeartbeats 8000000 in
theorem frames_walk (a b : ByteArray) (w : World) :
    Calls Try.prog 6 #[.string a, .string b] w fun e w' => e = .returned (.bool true) ∧ Below w.heap.size w w' := by
  have hC := lawcut_any (a, b) w
  have hk : (cutK (a, b)).1.size ≤ 20 := cutS_size _ _
  have hd : (cutK (a, b)).2.size ≤ 30 := cutS_size _ _
  generalize (cutK (a, b)).1 = k at *
  generalize (cutK (a, b)).2 = d at *
  have hz := frameB_small (k := k) (d := d) (by omega) (by omega)
  have hF := fun w => frame_any k d (by omega) (by omega) w
  have hG := fun w => refframe_any k d (by omega) (by omega) w
  have hR := fun w => reads_val (frameB k d) (by omega) w
  rw [readV_frame k d (by omega) (by omega)] at hR
  dsimp only at hR
  generalize frameB k d = fr at *
  have hA := fun w => awake_any w
  go_enter Try.func6, Try.ntmps6
  go_wp2_with (first
    | (with_reducible refine Lex.finE_on (by kernel_rfl) (by repeat first | exact Lex.finL_nil | refine Lex.finL_none rfl ?_ | refine Lex.finL_skip (by decide +kernel) ?_ | refine Lex.finL_take rfl x0 ?_ | refine Lex.finL_take rfl x1 ?_ | refine Lex.finL_take rfl y0 ?_) ?_)
    | (with_reducible refine Lex.wp_region_lex (by kernel_rfl) (by decide +kernel) ?_)
    | (with_reducible refine Lex.fin_on (by kernel_rfl) ?_)
    | (with_reducible refine Lex.wp_region_lexE (by kernel_rfl) (by decide +kernel) ?_; obtain ⟨g, rfl, hX⟩ := slice_cells (k := k) (d := d) hb2 hb3 hown; obtain ⟨x0, x1, y0, y1⟩ := hX w3.drew (Lex.Ext.refl _))
    | (with_reducible refine Lex.wpX_plain (by decide +kernel) ?_)
    | (with_reducible refine Lex.wpX_call ?_)
    | (with_reducible refine Lex.wpX_nil ?_)
    | (with_reducible refine Lex.ext_on (Lex.Ext.of_below hb4 (Nat.le_refl _)) ?_)
    | (with_reducible refine Lex.ext_on (Lex.Ext.of_below hb5 (Nat.le_refl _)) ?_)
    | (with_reducible refine Lex.ext_on (Lex.Ext.of_below hb6 (Nat.le_refl _)) ?_)
    | (with_reducible refine Lex.ext_on (Lex.Ext.of_below hb7 (Nat.le_refl _)) ?_)
    | (go_at_call 25; refine hC.mono ?_; rintro e w1 ⟨rfl, hb1⟩)
    | (go_at_call 26; refine (hR _).mono ?_; rintro e w3 ⟨p, cap, rfl, hown, hb3⟩)
    | (go_at_call 28; refine (hG _).mono ?_; rintro e w5 ⟨rfl, hb5⟩; have hx5 := hx4.trans (Lex.Ext.of_below hb5 (Nat.le_refl _)); obtain ⟨p0, p1, q0, q1⟩ := hX _ hx5)
    | (go_at_call 29; refine (hA _).mono ?_; rintro e w7 ⟨rfl, hb7⟩)
    | (go_at_call 27; first
        | (refine (hF _).mono ?_; rintro e w6 ⟨rfl, hb6⟩; have hx6 := hx5.trans (Lex.Ext.of_below hb6 (Nat.le_refl _)))
        | (refine (hF _).mono ?_; rintro e w4 ⟨rfl, hb4⟩; have hx4 := Lex.Ext.of_below hb4 (Nat.le_refl _); obtain ⟨u0, u1, v0, v1⟩ := hX _ hx4)
        | (refine (hF _).mono ?_; rintro e w2 ⟨rfl, hb2⟩)))
  go_ret
  exact ⟨rfl, ((((((hb1.alloc hb1.size _).step hb2).step hb3).drew.step hb4).step hb5).step hb6).step hb7⟩
end Go.Proofs.Ytmflngpgmmgohaa
