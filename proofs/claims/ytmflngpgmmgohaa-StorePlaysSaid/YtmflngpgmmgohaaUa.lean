/-
  Walks: comparing lists of texts.
-/
import Derived.Test.YtmflngpgmmgohaaIter
namespace Go.Proofs.Ytmflngpgmmgohaa
open Go.RowKit Go.Sort

theorem ownT_slice {w : World} {B n : Nat} {v : Value} {xs : List Value} (h : w.ownsRow B 9 1 v n xs) : ∃ p cap, v = .slice p n cap := by
  rcases h.2 with ⟨rfl, h0⟩ | ⟨g, cap, cur, rfl, _⟩
  · exact ⟨none, 0, by rw [h0]⟩
  · exact ⟨_, _, rfl⟩
theorem ownT_ptr {w : World} {B n cap : Nat} {p : Option Addr} {xs : List Value} (h : w.ownsRow B 9 1 (.slice p n cap) n xs) (hn : 0 < n) : ∃ g, p = some ⟨g, 0, none⟩ := by
  rcases h.2 with ⟨_, h0⟩ | ⟨g, c, cur, h1, _⟩
  · omega
  · simp only [Value.slice.injEq] at h1; exact ⟨g, h1.1⟩
theorem ownT_cell {w : World} {B g cap : Nat} {l : List (List UInt8)} (h : w.ownsRow B 9 1 (.slice (some ⟨g, 0, none⟩) l.length cap) l.length (l.map encStr)) {k : Nat} (hk : k < l.length) :
    w.cell? ⟨g, k, none⟩ = some (.string ⟨(l[k]).toArray⟩) := by
  refine (h.cellAt k (by omega)).trans ?_
  simp [hk, encStr]
theorem ownT_heap {w w' : World} {B n : Nat} {v : Value} {xs : List Value} (h : w.ownsRow B 9 1 v n xs) (he : w'.heap = w.heap) : w'.ownsRow B 9 1 v n xs := by
  refine ⟨h.1, ?_⟩
  rw [he]; exact h.2

set_option maxRecDepth 100000 in
set_option maxHeartbeats 8000000 in
theorem sameTexts_any (B1 B2 : Nat) (v1 v2 : Value) (l1 l2 : List (List UInt8)) (w : World) (h1 : w.ownsRow B1 9 1 v1 l1.length (l1.map encStr)) (h2 : w.ownsRow B2 9 1 v2 l2.length (l2.map encStr)) (hl1 : l1.length ≤ 1048576) (hl2 : l2.length ≤ 1048576) :
    Calls Try.prog 40 #[v1, v2] w fun e w' => e = .returned (.bool (decide (l1 = l2))) ∧ Below w.heap.size w w' := by
  obtain ⟨p1, c1, rfl⟩ := ownT_slice h1
  obtain ⟨p2, c2, rfl⟩ := ownT_slice h2
  by_cases hne : l1.length = l2.length
  case neg =>
    have hd : (l1.length : Int) ≠ l2.length := by omega
    have hdd : ((l1.length : Int) == l2.length) = false := by simp; omega
    have hR : decide (l1 = l2) = false := by simp; intro h; exact hne (by rw [h])
    rw [hR]
    go_enter Try.func40, Try.ntmps40
    go_wp2
    go_ret
    exact ⟨rfl, Below.refl _ _⟩
  case pos =>
    have hdd : ((l1.length : Int) == l2.length) = true := by simp; omega
    have H1 := Lib.hid h1; clear h1
    have H2 := Lib.hid h2; clear h2
    go_enter Try.func40, Try.ntmps40
    go_wp2
    go_loopw [13] (fun i wr => ∃ k : Nat, i = .int .i64 k ∧ k ≤ l1.length ∧ l1.take k = l2.take k ∧ wr.heap = w.heap ∧ Below w.heap.size w wr) (fun i _ => l1.length - (intOf i).toNat)
    case atStart => exact ⟨0, rfl, by omega, rfl, rfl, Below.refl _ _⟩
    case round =>
      obtain ⟨k, rfl, hk, htk, hhp, hbl⟩ := hrel
      by_cases hlt : k < l1.length
      · have hlt2 : k < l2.length := by omega
        have o1 := ownT_heap H1.out hhp
        have o2 := ownT_heap H2.out hhp
        obtain ⟨g1, rfl⟩ := ownT_ptr o1 (by omega)
        obtain ⟨g2, rfl⟩ := ownT_ptr o2 (by omega)
        have x0 := ownT_cell o1 hlt
        have y0 := ownT_cell o2 hlt2
        have hT1 : l1.take (k + 1) = l1.take k ++ [l1[k]] := List.take_succ_eq_append_getElem hlt
        have hT2 : l2.take (k + 1) = l2.take k ++ [l2[k]] := List.take_succ_eq_append_getElem hlt2
        have hget : l1 = l2 → l1[k] = l2[k] := fun h => by subst h; rfl
        generalize l1[k] = r1 at *
        generalize l2[k] = r2 at *
        have hb : ((ByteArray.mk r1.toArray).toList == (ByteArray.mk r2.toArray).toList) = (r1 == r2) := by simp
        have Htk := Lib.hid htk; clear htk
        have HT1 := Lib.hid hT1; clear hT1
        have HT2 := Lib.hid hT2; clear hT2
        have Hget := Lib.hid hget; clear hget o1 o2
        have Hhp := Lib.hid hhp; clear hhp
        by_cases hr : r1 = r2
        · have e1 : (r1 == r2) = true := by simpa using hr
          have Hr := Lib.hid hr; clear hr
          go_wp2_with (first
            | ((with_reducible refine at_region ?_); with_reducible refine Lex.wp_region_lex (by kernel_rfl) (by decide +kernel) ?_)
            | ((with_reducible refine at_fin ?_); with_reducible refine Lex.fin_on (by kernel_rfl) ?_))
          refine ⟨⟨k + 1, by go_num, by omega, ?_, Hhp.out, hbl.drew⟩, by simp [intOf]; omega⟩
          rw [HT1.out, HT2.out, Htk.out, Hr.out]
        · have e1 : (r1 == r2) = false := by simpa using hr
          have hR : decide (l1 = l2) = false := by
            simp only [decide_eq_false_iff_not]; intro h; exact hr (Hget.out h)
          have HR := Lib.hid hR
          clear hr hR
          go_wp2_with (first
            | ((with_reducible refine at_region ?_); with_reducible refine Lex.wp_region_lex (by kernel_rfl) (by decide +kernel) ?_)
            | ((with_reducible refine at_fin ?_); with_reducible refine Lex.fin_on (by kernel_rfl) ?_))
          go_ret
          exact ⟨by rw [HR.out]; rfl, hbl.drew⟩
      · obtain rfl : k = l1.length := by omega
        have hR : decide (l1 = l2) = true := by
          simp only [decide_eq_true_eq]
          rw [List.take_length, hne, List.take_length] at htk
          exact htk
        have HR := Lib.hid hR
        clear hR htk hhp
        go_wp2
        go_ret
        exact ⟨by rw [HR.out]; rfl, hbl⟩
end Go.Proofs.Ytmflngpgmmgohaa
