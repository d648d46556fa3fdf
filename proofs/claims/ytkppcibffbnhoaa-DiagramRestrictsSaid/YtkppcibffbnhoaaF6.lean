/-
  Walks: the reference's safe.
-/
import Derived.Test.YtkppcibffbnhoaaF5
namespace Go.Proofs.Ytkppcibffbnhoaa
open Go.RowKit
set_option maxRecDepth 100000

/-- What each node of a diagram meets. -/
theorem Good.fit {N : List IT} {r : Int} (hg : Good N r) (k : Nat) (hk : k < N.length) : (0 ≤ (N[k]).1 ∧ (N[k]).1 < 12) ∧ (0 ≤ (N[k]).2.1 ∧ (N[k]).2.1 < (k : Int) + 2) ∧ (0 ≤ (N[k]).2.2 ∧ (N[k]).2.2 < (k : Int) + 2) ∧ (N[k]).1 < litR N (N[k]).2.1 ∧ (N[k]).1 < litR N (N[k]).2.2 := by
  obtain ⟨t, ot, hN, hr⟩ := hg
  obtain ⟨w, iL⟩ := canon_wf ot
  have hN' : cN (nodes (canonL t)) = N := hN
  subst hN'
  have hkL : k < (canonL t).length := by simpa [cN, nodes] using hk
  have hs := w.safe k hk
  obtain ⟨l, h, j, hx⟩ := w.nc (canonL t)[k] (List.getElem_mem hkL)
  have hm : T.n l h j ∈ canonL t := hx ▸ List.getElem_mem hkL
  obtain ⟨i1, i2⟩ := w.kids hm
  have e : (cN (nodes (canonL t)))[k] = castT (enc (canonL t) (canonL t)[k]) := by simp [cN, nodes]
  have ho := w.ok _ hm
  have ht : (cN (nodes (canonL t))).take (canonL t).length = cN (nodes (canonL t)) := List.take_of_length_le (by rw [cN_length, nodes_length]; exact Nat.le_refl _)
  have l1 := litR_tr w ht (ref_lt i1)
  have l2 := litR_tr w ht (ref_lt i2)
  rw [tr_ref i1] at l1
  rw [tr_ref i2] at l2
  refine ⟨hs.1, hs.2.1, hs.2.2, ?_, ?_⟩
  · rw [e, hx]; show ((l : Nat) : Int) < litR _ ((ref (canonL t) h : Nat) : Int)
    rw [l1]; have := ho.2.2.1; omega
  · rw [e, hx]; show ((l : Nat) : Int) < litR _ ((ref (canonL t) j : Nat) : Int)
    rw [l2]; have := ho.2.2.2.1; omega
/-- What safe answers. -/
def SR (N : List IT) (r : Int) (w : World) (e : Ending) (w' : World) : Prop := ∃ b : Bool, e = .returned (.bool b) ∧ (b = true → SafeN N ∧ 0 ≤ r ∧ r < N.length + 2) ∧ (Good N r → b = true) ∧ Below w.heap.size w w'
theorem SR.no {N : List IT} {r : Int} {w w' : World} (h : ¬ Good N r) (hb : Below w.heap.size w w') : SR N r w (.returned (.bool false)) w' := ⟨false, rfl, fun h => (by cases h), fun hg => absurd hg h, hb⟩
theorem SR.yes {N : List IT} {r : Int} {w w' : World} (h : SafeN N) (h1 : 0 ≤ r) (h2 : r < N.length + 2) (hb : Below w.heap.size w w') : SR N r w (.returned (.bool true)) w' := ⟨true, rfl, fun _ => ⟨h, h1, h2⟩, fun _ => rfl, hb⟩

set_option maxHeartbeats 16000000 in
theorem safe_any (p : Option Addr) (cap : Nat) (N : List IT) (r : Int) (w : World) (hni : NI w p N) (hN : N.length ≤ 65536) :
    Calls Try.prog 35 #[.agg #[.slice p N.length cap, .int .i64 r]] w (SR N r w) := by
  have hA := (Below.refl w.heap.size w).alloc (Nat.le_refl _) (.cells #[.slice p N.length cap, .int .i64 r] 24)
  have hnA := heap_alloc_new w (.cells #[.slice p N.length cap, .int .i64 r] 24)
  have Hni0 := Lib.hid hni; clear hni
  go_enter Try.func35, Try.ntmps35
  go_wp2
  have HA := Lib.hid hA; have HnA := Lib.hid hnA
  clear hA hnA
  go_loopw [3] (fun i wr => ∃ k : Nat, i = .int .i64 k ∧ k ≤ N.length ∧ (∀ i (h : i < N.length), i < k → (0 ≤ (N[i]).1 ∧ (N[i]).1 < 12) ∧ (0 ≤ (N[i]).2.1 ∧ (N[i]).2.1 < (i : Int) + 2) ∧ (0 ≤ (N[i]).2.2 ∧ (N[i]).2.2 < (i : Int) + 2)) ∧ wr.heap[w.heap.size]? = some (.cells #[.slice p N.length cap, .int .i64 r] 24) ∧ Below w.heap.size w wr) (fun i _ => N.length - (intOf i).toNat)
  case atStart => exact ⟨0, rfl, by omega, fun i h h0 => by omega, HnA.out, HA.out⟩
  clear HA HnA
  case round =>
    obtain ⟨k, rfl, hk, hall, hd, hb⟩ := hrel
    have hni := Hni0.out.below hb
    obtain ⟨d0, d1, -⟩ := cells2 hd
    have Hall := Lib.hid hall; clear hall
    by_cases hlt : k < N.length
    · obtain ⟨ab, off, rfl, hab, x0, x1, x2⟩ := hni k hlt
      have hgood : Good N r → _ := fun hg => hg.fit k hlt
      have hnext : ((0 ≤ (N[k]).1 ∧ (N[k]).1 < 12) ∧ (0 ≤ (N[k]).2.1 ∧ (N[k]).2.1 < (k : Int) + 2) ∧ (0 ≤ (N[k]).2.2 ∧ (N[k]).2.2 < (k : Int) + 2)) → ∀ i (h : i < N.length), i < k + 1 → (0 ≤ (N[i]).1 ∧ (N[i]).1 < 12) ∧ (0 ≤ (N[i]).2.1 ∧ (N[i]).2.1 < (i : Int) + 2) ∧ (0 ≤ (N[i]).2.2 ∧ (N[i]).2.2 < (i : Int) + 2) := fun h i hi hik => by
        rcases Nat.lt_succ_iff_lt_or_eq.1 hik with h1 | rfl
        · exact Hall.out i hi h1
        · exact h
      have hcell : ∀ q : Nat, q < N.length → ∃ y : Int, litR N ((q : Int) + 2) = y ∧ wr.cell? ⟨ab, off + q * 3, none⟩ = some (.int .i64 y) := fun q hq => by
        obtain ⟨a', o', e1, -, e2, -, -⟩ := hni q hq
        simp only [Option.some.injEq, Addr.mk.injEq, and_true] at e1
        obtain ⟨rfl, rfl⟩ := e1
        refine ⟨_, ?_, e2⟩
        unfold litR
        rw [if_neg (by omega), show ((q : Int) + 2 - 2).toNat = q by omega, List.getD_eq_getElem?_getD, List.getElem?_eq_getElem hq]; rfl
      generalize N[k] = x at *
      obtain ⟨a, bb, cc⟩ := x
      dsimp only at x0 x1 x2 hgood hnext
      have HGood := Lib.hid hgood; clear hgood
      have Hnext := Lib.hid hnext; clear hnext Hall
      have hal : Below wr.heap.size wr (wr.alloc (.cells #[.int .i64 a, .int .i64 bb, .int .i64 cc] 32)) := (Below.refl _ _).alloc (Nat.le_refl _) _
      have hnew := heap_alloc_new wr (.cells #[.int .i64 a, .int .i64 bb, .int .i64 cc] 32)
      have hda := (hal.block _ (heap_lt hd)).trans hd
      have Hba := Lib.hid (hb.step hal)
      have Hcell := Lib.hid (show ∀ q : Nat, q < N.length → ∃ y : Int, litR N ((q : Int) + 2) = y ∧ (wr.alloc (.cells #[.int .i64 a, .int .i64 bb, .int .i64 cc] 32)).cell? ⟨ab, off + q * 3, none⟩ = some (.int .i64 y) from fun q hq => by
        obtain ⟨y, h1, h2⟩ := hcell q hq
        exact ⟨y, h1, (hal.cell (p := ⟨ab, _, none⟩) hab).trans h2⟩)
      clear hcell hb hd hni
      go_upto_region 5 with fail
      generalize wr.alloc (.cells #[.int .i64 a, .int .i64 bb, .int .i64 cc] 32) = wa at *
      clear d0 d1 x0 x1 x2 hal
      obtain ⟨d0, d1, -⟩ := cells2 hda
      obtain ⟨y0, y1, y2⟩ := cellsT hnew
      have Hda := Lib.hid hda; clear hda hnew
      by_cases g1 : 0 ≤ a
      case neg =>
        have fg1 : decide (a < 0) = true := by simp; omega
        have Hng := Lib.hid (show ¬ Good N r from fun hg => absurd (HGood.out hg) (by omega))
        go_wp2
        go_ret
        exact SR.no Hng.out Hba.out
      have fg1 : decide (a < 0) = false := by simp; omega
      by_cases g1b : a < 12
      case neg =>
        have fg1b : decide (12 ≤ a) = true := by simp; omega
        have Hng := Lib.hid (show ¬ Good N r from fun hg => absurd (HGood.out hg) (by omega))
        go_wp2
        go_ret
        exact SR.no Hng.out Hba.out
      have fg1b : decide (12 ≤ a) = false := by simp; omega
      by_cases g2 : 0 ≤ bb
      case neg =>
        have fg2 : decide (bb < 0) = true := by simp; omega
        have Hng := Lib.hid (show ¬ Good N r from fun hg => absurd (HGood.out hg) (by omega))
        go_wp2
        go_ret
        exact SR.no Hng.out Hba.out
      have fg2 : decide (bb < 0) = false := by simp; omega
      by_cases g3 : bb < (k : Int) + 2
      case neg =>
        have fg3 : decide ((k : Int) + 2 ≤ bb) = true := by simp; omega
        have Hng := Lib.hid (show ¬ Good N r from fun hg => absurd (HGood.out hg) (by omega))
        go_wp2
        go_ret
        exact SR.no Hng.out Hba.out
      have fg3 : decide ((k : Int) + 2 ≤ bb) = false := by simp; omega
      by_cases g4 : 0 ≤ cc
      case neg =>
        have fg4 : decide (cc < 0) = true := by simp; omega
        have Hng := Lib.hid (show ¬ Good N r from fun hg => absurd (HGood.out hg) (by omega))
        go_wp2
        go_ret
        exact SR.no Hng.out Hba.out
      have fg4 : decide (cc < 0) = false := by simp; omega
      by_cases g5 : cc < (k : Int) + 2
      case neg =>
        have fg5 : decide ((k : Int) + 2 ≤ cc) = true := by simp; omega
        have Hng := Lib.hid (show ¬ Good N r from fun hg => absurd (HGood.out hg) (by omega))
        go_wp2
        go_ret
        exact SR.no Hng.out Hba.out
      have fg5 : decide ((k : Int) + 2 ≤ cc) = false := by simp; omega
      go_upto_region 7 with fail
      clear fg1 fg1b fg2 fg3 fg4 fg5
      by_cases cH : 1 < bb
      case neg =>
        have sH : decide (1 < bb) = false := by simp; omega
        by_cases cL : 1 < cc
        case neg =>
          have sL : decide (1 < cc) = false := by simp; omega
          have Hx := Lib.hid (Hnext.out ⟨⟨g1, g1b⟩, ⟨g2, g3⟩, ⟨g4, g5⟩⟩)
          go_wp2_with (first
            | ((with_reducible refine Lex.at_region ?_); with_reducible refine Lex.wp_region_lex (by kernel_rfl) (by decide +kernel) ?_)
            | ((with_reducible refine Lex.at_fin ?_); with_reducible refine Lex.fin_on (by kernel_rfl) ?_))
          exact ⟨⟨k + 1, by go_num, by omega, Hx.out, Hda.out, Hba.out.drew⟩, by simp [intOf]; omega⟩
        case pos =>
          have sL : decide (1 < cc) = true := by simp; omega
          obtain ⟨qL, rfl⟩ : ∃ q : Nat, cc = (q : Int) + 2 := ⟨(cc - 2).toNat, by omega⟩
          obtain ⟨yL, eL, zL⟩ := Hcell.out qL (by omega)
          have EL := Lib.hid eL; clear eL
          by_cases tL : yL ≤ a
          case pos =>
            have rL : decide (yL ≤ a) = true := by simp; omega
            have Hng := Lib.hid (show ¬ Good N r from fun hg => by have h1 := HGood.out hg; rw [EL.out] at h1; omega)
            go_wp2_with (first
              | ((with_reducible refine Lex.at_region ?_); with_reducible refine Lex.wp_region_lex (by kernel_rfl) (by decide +kernel) ?_)
              | ((with_reducible refine Lex.at_fin ?_); with_reducible refine Lex.fin_on (by kernel_rfl) ?_))
            go_ret
            exact SR.no Hng.out Hba.out.drew
          case neg =>
            have rL : decide (yL ≤ a) = false := by simp; omega
            have Hx := Lib.hid (Hnext.out ⟨⟨g1, g1b⟩, ⟨g2, g3⟩, ⟨g4, g5⟩⟩)
            go_wp2_with (first
              | ((with_reducible refine Lex.at_region ?_); with_reducible refine Lex.wp_region_lex (by kernel_rfl) (by decide +kernel) ?_)
              | ((with_reducible refine Lex.at_fin ?_); with_reducible refine Lex.fin_on (by kernel_rfl) ?_))
            exact ⟨⟨k + 1, by go_num, by omega, Hx.out, Hda.out, Hba.out.drew⟩, by simp [intOf]; omega⟩
      case pos =>
        have sH : decide (1 < bb) = true := by simp; omega
        obtain ⟨qH, rfl⟩ : ∃ q : Nat, bb = (q : Int) + 2 := ⟨(bb - 2).toNat, by omega⟩
        obtain ⟨yH, eH, zH⟩ := Hcell.out qH (by omega)
        have EH := Lib.hid eH; clear eH
        by_cases tH : yH ≤ a
        case pos =>
          have rH : decide (yH ≤ a) = true := by simp; omega
          have Hng := Lib.hid (show ¬ Good N r from fun hg => by have h1 := HGood.out hg; rw [EH.out] at h1; omega)
          go_wp2_with (first
            | ((with_reducible refine Lex.at_region ?_); with_reducible refine Lex.wp_region_lex (by kernel_rfl) (by decide +kernel) ?_)
            | ((with_reducible refine Lex.at_fin ?_); with_reducible refine Lex.fin_on (by kernel_rfl) ?_))
          go_ret
          exact SR.no Hng.out Hba.out.drew
        case neg =>
          have rH : decide (yH ≤ a) = false := by simp; omega
          by_cases cL : 1 < cc
          case neg =>
            have sL : decide (1 < cc) = false := by simp; omega
            have Hx := Lib.hid (Hnext.out ⟨⟨g1, g1b⟩, ⟨g2, g3⟩, ⟨g4, g5⟩⟩)
            go_wp2_with (first
              | ((with_reducible refine Lex.at_region ?_); with_reducible refine Lex.wp_region_lex (by kernel_rfl) (by decide +kernel) ?_)
              | ((with_reducible refine Lex.at_fin ?_); with_reducible refine Lex.fin_on (by kernel_rfl) ?_))
            exact ⟨⟨k + 1, by go_num, by omega, Hx.out, Hda.out, Hba.out.drew⟩, by simp [intOf]; omega⟩
          case pos =>
            have sL : decide (1 < cc) = true := by simp; omega
            obtain ⟨qL, rfl⟩ : ∃ q : Nat, cc = (q : Int) + 2 := ⟨(cc - 2).toNat, by omega⟩
            obtain ⟨yL, eL, zL⟩ := Hcell.out qL (by omega)
            have EL := Lib.hid eL; clear eL
            by_cases tL : yL ≤ a
            case pos =>
              have rL : decide (yL ≤ a) = true := by simp; omega
              have Hng := Lib.hid (show ¬ Good N r from fun hg => by have h1 := HGood.out hg; rw [EL.out] at h1; omega)
              go_wp2_with (first
                | ((with_reducible refine Lex.at_region ?_); with_reducible refine Lex.wp_region_lex (by kernel_rfl) (by decide +kernel) ?_)
                | ((with_reducible refine Lex.at_fin ?_); with_reducible refine Lex.fin_on (by kernel_rfl) ?_))
              go_ret
              exact SR.no Hng.out Hba.out.drew
            case neg =>
              have rL : decide (yL ≤ a) = false := by simp; omega
              have Hx := Lib.hid (Hnext.out ⟨⟨g1, g1b⟩, ⟨g2, g3⟩, ⟨g4, g5⟩⟩)
              go_wp2_with (first
                | ((with_reducible refine Lex.at_region ?_); with_reducible refine Lex.wp_region_lex (by kernel_rfl) (by decide +kernel) ?_)
                | ((with_reducible refine Lex.at_fin ?_); with_reducible refine Lex.fin_on (by kernel_rfl) ?_))
              exact ⟨⟨k + 1, by go_num, by omega, Hx.out, Hda.out, Hba.out.drew⟩, by simp [intOf]; omega⟩
    · obtain rfl : k = N.length := by omega
      have hS : SafeN N := fun i hi => Hall.out i hi hi
      have HS := Lib.hid hS
      have Hb := Lib.hid hb
      clear hS hb Hall hni hd
      by_cases r1 : 0 ≤ r
      case neg =>
        have f1 : decide (0 ≤ r) = false := by simp; omega
        have Hng := Lib.hid (show ¬ Good N r from fun hg => by have := hg.root; omega)
        go_wp2
        go_ret
        exact SR.no Hng.out Hb.out
      have f1 : decide (0 ≤ r) = true := by simp; omega
      by_cases r2 : r < N.length + 2
      case neg =>
        have f2 : decide (r < (N.length : Int) + 2) = false := by simp; omega
        have Hng := Lib.hid (show ¬ Good N r from fun hg => by have := hg.root; omega)
        go_wp2
        go_ret
        exact SR.no Hng.out Hb.out
      have f2 : decide (r < (N.length : Int) + 2) = true := by simp; omega
      go_wp2
      go_ret
      exact SR.yes HS.out r1 r2 Hb.out
end Go.Proofs.Ytkppcibffbnhoaa
