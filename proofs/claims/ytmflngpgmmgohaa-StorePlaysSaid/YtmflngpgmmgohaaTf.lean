/-
  Walks: comparing lists of records.
-/
import Derived.Test.YtmflngpgmmgohaaTe
namespace Go.Proofs.Ytmflngpgmmgohaa
open Go.RowKit

theorem own_slice {w : World} {B n : Nat} {v : Value} {xs : List Value} (h : w.ownsRow B 44 2 v n xs) : ∃ p cap, v = .slice p n cap := by
  rcases h.2 with ⟨rfl, h0⟩ | ⟨g, cap, cur, rfl, _⟩
  · exact ⟨none, 0, by rw [h0]⟩
  · exact ⟨_, _, rfl⟩
theorem own_ptr {w : World} {B n cap : Nat} {p : Option Addr} {xs : List Value} (h : w.ownsRow B 44 2 (.slice p n cap) n xs) (hn : 0 < n) : ∃ g, p = some ⟨g, 0, none⟩ := by
  rcases h.2 with ⟨_, h0⟩ | ⟨g, c, cur, h1, _⟩
  · omega
  · simp only [Value.slice.injEq] at h1; exact ⟨g, h1.1⟩
theorem own_cells {w : World} {B g cap : Nat} {l : List Rec} (h : w.ownsRow B 44 2 (.slice (some ⟨g, 0, none⟩) l.length cap) l.length (recCells l)) {k : Nat} (hk : k < l.length) :
    w.cell? ⟨g, k * 2, none⟩ = some (.string (l[k]).1) ∧ w.cell? ⟨g, k * 2 + 1, none⟩ = some (.string (l[k]).2) := by
  have hg := recCells_get l k hk
  exact ⟨(h.cellAt (k * 2) (by omega)).trans ((congrArg (fun j => (recCells l)[j]?) (Nat.mul_comm k 2)).trans hg.1), (h.cellAt (k * 2 + 1) (by omega)).trans ((congrArg (fun j => (recCells l)[j + 1]?) (Nat.mul_comm k 2)).trans hg.2)⟩
theorem ownsRow_heap {w w' : World} {B n : Nat} {v : Value} {xs : List Value} (h : w.ownsRow B 44 2 v n xs) (he : w'.heap = w.heap) : w'.ownsRow B 44 2 v n xs := by
  refine ⟨h.1, ?_⟩
  rw [he]; exact h.2

set_option maxRecDepth 100000 in
set_option maxHeartbeats 8000000 in
theorem sameRecs_any (B1 B2 : Nat) (v1 v2 : Value) (l1 l2 : List Rec) (w : World) (h1 : w.ownsRow B1 44 2 v1 l1.length (recCells l1)) (h2 : w.ownsRow B2 44 2 v2 l2.length (recCells l2)) (hl1 : l1.length ≤ 1048576) (hl2 : l2.length ≤ 1048576) :
    Calls Try.prog 33 #[v1, v2] w fun e w' => e = .returned (.bool (decide (l1 = l2))) ∧ Below w.heap.size w w' := by
  obtain ⟨p1, c1, rfl⟩ := own_slice h1
  obtain ⟨p2, c2, rfl⟩ := own_slice h2
  by_cases hne : l1.length = l2.length
  case neg =>
    have hd : (l1.length : Int) ≠ l2.length := by omega
    have hdd : ((l1.length : Int) == l2.length) = false := by simp; omega
    have hR : decide (l1 = l2) = false := by simp; intro h; exact hne (by rw [h])
    rw [hR]
    go_enter Try.func33, Try.ntmps33
    go_wp2_with (first
      | (with_reducible refine Lex.wp_region_lex (by kernel_rfl) (by decide +kernel) ?_)
      | (with_reducible refine Lex.fin_on (by kernel_rfl) ?_))
    go_ret
    exact ⟨rfl, Below.refl _ _⟩
  case pos =>
    have hdd : ((l1.length : Int) == l2.length) = true := by simp; omega
    have H1 := Lib.hid h1; clear h1
    have H2 := Lib.hid h2; clear h2
    go_enter Try.func33, Try.ntmps33
    go_wp2_with (first
      | (with_reducible refine Lex.wp_region_lex (by kernel_rfl) (by decide +kernel) ?_)
      | (with_reducible refine Lex.fin_on (by kernel_rfl) ?_))
    go_loopw [13] (fun i wr => ∃ k : Nat, i = .int .i64 k ∧ k ≤ l1.length ∧ l1.take k = l2.take k ∧ wr.heap = w.heap ∧ Below w.heap.size w wr) (fun i _ => l1.length - (intOf i).toNat)
    case atStart => exact ⟨0, rfl, by omega, rfl, rfl, Below.refl _ _⟩
    case round =>
      obtain ⟨k, rfl, hk, htk, hhp, hbl⟩ := hrel
      by_cases hlt : k < l1.length
      · have hlt2 : k < l2.length := by omega
        have o1 := ownsRow_heap H1.out hhp
        have o2 := ownsRow_heap H2.out hhp
        obtain ⟨g1, rfl⟩ := own_ptr o1 (by omega)
        obtain ⟨g2, rfl⟩ := own_ptr o2 (by omega)
        obtain ⟨x0, x1⟩ := own_cells o1 hlt
        obtain ⟨y0, y1⟩ := own_cells o2 hlt2
        have hT1 : l1.take (k + 1) = l1.take k ++ [l1[k]] := List.take_succ_eq_append_getElem hlt
        have hT2 : l2.take (k + 1) = l2.take k ++ [l2[k]] := List.take_succ_eq_append_getElem hlt2
        have hget : l1 = l2 → l1[k] = l2[k] := fun h => by subst h; rfl
        generalize l1[k] = r1 at *
        generalize l2[k] = r2 at *
        obtain ⟨k1, d1⟩ := r1
        obtain ⟨k2, d2⟩ := r2
        have Htk := Lib.hid htk; clear htk
        have HT1 := Lib.hid hT1; clear hT1
        have HT2 := Lib.hid hT2; clear hT2
        have Hget := Lib.hid hget; clear hget o1 o2
        have Hhp := Lib.hid hhp; clear hhp
        dsimp only at x0 x1 y0 y1
        by_cases hk12 : k1 = k2
        · by_cases hd12 : d1 = d2
          · have e1 := beq_yes hk12
            have e2 := beq_yes hd12
            have Hk := Lib.hid hk12; clear hk12
            have Hd := Lib.hid hd12; clear hd12
            go_wp2_with (first
              | (with_reducible refine Lex.wp_region_lex (by kernel_rfl) (by decide +kernel) ?_)
              | (with_reducible refine Lex.fin_on (by kernel_rfl) ?_))
            refine ⟨⟨k + 1, by go_num, by omega, ?_, Hhp.out, hbl.drew⟩, by simp [intOf]; omega⟩
            rw [HT1.out, HT2.out, Htk.out, Hk.out, Hd.out]
          · have e1 := beq_yes hk12
            have e2 := beq_no hd12
            have hR : decide (l1 = l2) = false := by
              simp only [decide_eq_false_iff_not]; intro h; exact hd12 (congrArg Prod.snd (Hget.out h))
            have HR := Lib.hid hR
            clear hd12 hk12 hR
            go_wp2_with (first
              | (with_reducible refine Lex.wp_region_lex (by kernel_rfl) (by decide +kernel) ?_)
              | (with_reducible refine Lex.fin_on (by kernel_rfl) ?_))
            go_ret
            exact ⟨by rw [HR.out]; rfl, hbl.drew⟩
        · have e1 := beq_no hk12
          have hR : decide (l1 = l2) = false := by
            simp only [decide_eq_false_iff_not]; intro h; exact hk12 (congrArg Prod.fst (Hget.out h))
          have HR := Lib.hid hR
          clear hk12 hR
          go_wp2_with (first
            | (with_reducible refine Lex.wp_region_lex (by kernel_rfl) (by decide +kernel) ?_)
            | (with_reducible refine Lex.fin_on (by kernel_rfl) ?_))
          go_ret
          exact ⟨by rw [HR.out]; rfl, hbl.drew⟩
      · obtain rfl : k = l1.length := by omega
        have hR : decide (l1 = l2) = true := by
          simp only [decide_eq_true_eq]
          rw [List.take_length, hne, List.take_length] at htk
          exact htk
        have HR := Lib.hid hR
        clear hR htk hhp
        go_wp2_with (first
          | (with_reducible refine Lex.wp_region_lex (by kernel_rfl) (by decide +kernel) ?_)
          | (with_reducible refine Lex.fin_on (by kernel_rfl) ?_))
        go_ret
        exact ⟨by rw [HR.out]; rfl, hbl⟩
end Go.Proofs.Ytmflngpgmmgohaa
