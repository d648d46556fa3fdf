/-
  Walks: EqualDiagrams.
-/
import Derived.Test.YtkppcibffbnhoaaF2
namespace Go.Proofs.Ytkppcibffbnhoaa
open Go.RowKit
set_option maxRecDepth 100000

/-- What a comparison answers. -/
def ER (b : Bool) (w : World) (e : Ending) (w' : World) : Prop := e = .returned (.bool b) ∧ Below w.heap.size w w'
set_option maxHeartbeats 8000000 in
theorem eqd_any (p q : Option Addr) (c1 c2 : Nat) (N M : List IT) (r1 r2 : Int) (w : World) (h1 : NI w p N) (h2 : NI w q M) (hN : N.length ≤ 1099511627776) (hM : M.length ≤ 1099511627776) :
    Calls Try.prog 15 #[.agg #[.slice p N.length c1, .int .i64 r1], .agg #[.slice q M.length c2, .int .i64 r2]] w (ER (decide (N = M ∧ r1 = r2)) w) := by
  have hA1 := (Below.refl w.heap.size w).alloc (Nat.le_refl _) (.cells #[.slice p N.length c1, .int .i64 r1] 24)
  have hn1 := heap_alloc_new w (.cells #[.slice p N.length c1, .int .i64 r1] 24)
  have hs1 : (w.alloc (.cells #[.slice p N.length c1, .int .i64 r1] 24)).heap.size = w.heap.size + 1 := by simp
  have H1 := Lib.hid h1; clear h1
  have H2 := Lib.hid h2; clear h2
  by_cases hr : r1 = r2
  case neg =>
    have hdd : (r1 == r2) = false := by simp [hr]
    have hdd' : (r1 != r2) = true := by simp [hr]
    have hR : decide (N = M ∧ r1 = r2) = false := by simp [hr]
    rw [hR]
    have Hb := Lib.hid (hA1.alloc (by simp) (.cells #[.slice q M.length c2, .int .i64 r2] 24))
    clear hR hr hA1 hn1 hs1
    go_enter Try.func15, Try.ntmps15
    go_wp2
    go_ret
    exact ⟨rfl, Hb.out⟩
  subst hr
  rw [show decide (N = M ∧ r1 = r1) = decide (N = M) by simp]
  by_cases hne : N.length = M.length
  case neg =>
    have hdd : ((N.length : Int) == M.length) = false := by simp; omega
    have hdd' : (N.length == M.length) = false := by simp; omega
    have hR : decide (N = M) = false := by simp; intro h; exact hne (by rw [h])
    rw [hR]
    have Hb := Lib.hid (hA1.alloc (by simp) (.cells #[.slice q M.length c2, .int .i64 r1] 24))
    clear hR hne hA1 hn1 hs1
    go_enter Try.func15, Try.ntmps15
    go_wp2
    go_ret
    exact ⟨rfl, Hb.out⟩
  have hdd : ((N.length : Int) == M.length) = true := by simp; omega
  have hdd' : (N.length == M.length) = true := by simp; omega
  have Hne := Lib.hid hne; clear hne
  go_enter Try.func15, Try.ntmps15
  go_upto_region 1 with fail
  generalize w.alloc (.cells #[.slice p N.length c1, .int .i64 r1] 24) = w1 at *
  have hA2 := (Below.refl w1.heap.size w1).alloc (Nat.le_refl _) (.cells #[.slice q M.length c2, .int .i64 r1] 24)
  have hn2 := heap_alloc_new w1 (.cells #[.slice q M.length c2, .int .i64 r1] 24)
  generalize w1.alloc (.cells #[.slice q M.length c2, .int .i64 r1] 24) = w2 at *
  rw [hs1] at hn2
  have hn1' := (hA2.block _ (heap_lt hn1)).trans hn1
  have Hb2 := Lib.hid (hA1.trans (hA2.mono (by omega)))
  have Hn1 := Lib.hid hn1'; have Hn2 := Lib.hid hn2
  clear hA1 hA2 hn1 hs1
  obtain ⟨a0, a1, -⟩ := cells2 hn1'
  obtain ⟨b0, b1, -⟩ := cells2 hn2
  clear hn1' hn2
  go_wp2
  clear a0 a1 b0 b1 hdd hdd'
  go_loopw [5] (fun i wr => ∃ k : Nat, i = .int .i64 k ∧ k ≤ N.length ∧ N.take k = M.take k ∧ wr.heap[w.heap.size]? = some (.cells #[.slice p N.length c1, .int .i64 r1] 24) ∧ wr.heap[w.heap.size + 1]? = some (.cells #[.slice q M.length c2, .int .i64 r1] 24) ∧ Below w.heap.size w wr) (fun i _ => N.length - (intOf i).toNat)
  case atStart => exact ⟨0, rfl, by omega, rfl, Hn1.out, Hn2.out, Hb2.out⟩
  case round =>
    obtain ⟨k, rfl, hk, htk, d1, d2, hbl⟩ := hrel
    obtain ⟨a0, -, -⟩ := cells2 d1
    obtain ⟨b0, -, -⟩ := cells2 d2
    have D1 := Lib.hid d1; have D2 := Lib.hid d2; clear d1 d2
    have Htk := Lib.hid htk; clear htk
    clear Hn1 Hn2 Hb2
    by_cases hlt : k < N.length
    · have hlt2 : k < M.length := by have := Hne.out; omega
      obtain ⟨a, o, rfl, ha, x0, x1, x2⟩ := (H1.out.below hbl) k hlt
      obtain ⟨b, o2, rfl, hb, y0, y1, y2⟩ := (H2.out.below hbl) k hlt2
      have hnx : N[k] = M[k] → N.take (k + 1) = M.take (k + 1) := fun h => by
        rw [List.take_succ_eq_append_getElem hlt, List.take_succ_eq_append_getElem hlt2, Htk.out, h]
      have hno : N[k] ≠ M[k] → ¬ N = M := fun h e => h (by subst e; rfl)
      have hrn := fun w => run_neq_tri w N[k] M[k]
      generalize N[k] = x at *
      generalize M[k] = y at *
      have Hnx := Lib.hid hnx; clear hnx
      have Hno := Lib.hid hno; clear hno
      have Hbl := Lib.hid hbl; clear hbl
      by_cases he : x = y
      · have hd : decide (x = y) = true := by simp [he]
        rw [hd] at hrn
        have He := Lib.hid he; clear he hd
        go_wp2_with (first
          | ((with_reducible refine Lex.at_region ?_); with_reducible refine Lex.wp_region_lex (by kernel_rfl) (by decide +kernel) ?_)
          | ((with_reducible refine Lex.at_fin ?_); with_reducible refine Lex.fin_on (by kernel_rfl) ?_))
        exact ⟨⟨k + 1, by go_num, by omega, Hnx.out He.out, D1.out, D2.out, Hbl.out.drew⟩, by simp [intOf]; omega⟩
      · have hd : decide (x = y) = false := by simp [he]
        rw [hd] at hrn
        have He := Lib.hid he; clear he hd
        have hR := Lib.hid (show decide (N = M) = false by simp; exact Hno.out He.out)
        go_wp2_with (first
          | ((with_reducible refine Lex.at_region ?_); with_reducible refine Lex.wp_region_lex (by kernel_rfl) (by decide +kernel) ?_)
          | ((with_reducible refine Lex.at_fin ?_); with_reducible refine Lex.fin_on (by kernel_rfl) ?_))
        go_ret
        rw [hR.out]
        exact ⟨rfl, Hbl.out.drew⟩
    · obtain rfl : k = N.length := by omega
      have hR := Lib.hid (show decide (N = M) = true by
        have h := Htk.out
        rw [List.take_length, Hne.out, List.take_length] at h
        simp [h])
      have Hbl := Lib.hid hbl; clear hbl
      go_wp2
      go_ret
      rw [hR.out]
      exact ⟨rfl, Hbl.out⟩
theorem eqd_tree (va vb : Value) (s t : T) (w : World) (ha : DV w va s) (hb : DV w vb t) : Calls Try.prog 15 #[va, vb] w (ER (decide (s = t)) w) := by
  obtain ⟨p, c1, rfl, h1⟩ := id ha.dd.ex
  obtain ⟨q, c2, rfl, h2⟩ := id hb.dd.ex
  have l1 := canon_len ha.ok
  have l2 := canon_len hb.ok
  have h := eqd_any p q c1 c2 (cN (canonN s)) (cN (canonN t)) (canonR s) (canonR t) w h1.ni h2.ni (by rw [cN_length]; omega) (by rw [cN_length]; omega)
  rw [cN_length, cN_length] at h
  have e : decide (cN (canonN s) = cN (canonN t) ∧ ((canonR s : Nat) : Int) = canonR t) = decide (s = t) := by
    rw [decide_eq_decide]
    constructor
    · rintro ⟨e1, e2⟩
      exact canon_inj ha.ok hb.ok (cN_inj e1) (by omega)
    · rintro rfl; exact ⟨rfl, rfl⟩
  rw [e] at h
  exact h
end Go.Proofs.Ytkppcibffbnhoaa
