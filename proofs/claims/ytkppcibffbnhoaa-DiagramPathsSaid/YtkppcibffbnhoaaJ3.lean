/-
  Walks: DiagramPaths.
-/
import Derived.Test.YtkppcibffbnhoaaJ2
import Derived.Test.YtkppcibffbnhoaaH2
namespace Go.Proofs.Ytkppcibffbnhoaa
open Go.RowKit
set_option maxRecDepth 100000

theorem FR.bad {ps : List IP} {w : World} {e : Ending} {w' : World} (hn : ¬ okP ps) (h : FR ps w e w') : e = .returned (.tuple #[.agg #[.slice none 0 0, .int .i64 0], .int .i64 1]) ∧ Below w.heap.size w w' := by
  rcases h with ⟨-, h1, h2⟩ | ⟨h1, -⟩
  · exact ⟨h1, h2⟩
  · exact absurd h1 hn
theorem FR.good {ps : List IP} {w : World} {e : Ending} {w' : World} (hn : okP ps) (h : FR ps w e w') : ∃ v t, e = .returned (.tuple #[v, .int .i64 0]) ∧ DV w' v t ∧ (∀ M, t.ev (bitsF M) = ps.any (holdsP M)) ∧ Below w.heap.size w w' := by
  rcases h with ⟨h1, -⟩ | ⟨-, h2⟩
  · exact absurd hn h1
  · exact h2
theorem OR.bad {ps : List IP} {w : World} {e : Ending} {w' : World} (hn : ¬ okP ps) (h : OR ps w e w') : e = .returned (.tuple #[.agg #[.slice none 0 0, .int .i64 0], .bool false]) ∧ Below w.heap.size w w' := by
  rcases h with ⟨-, h1, h2⟩ | ⟨h1, -⟩
  · exact ⟨h1, h2⟩
  · exact absurd h1 hn
theorem OR.good {ps : List IP} {w : World} {e : Ending} {w' : World} (hn : okP ps) (h : OR ps w e w') : ∃ v t, e = .returned (.tuple #[v, .bool true]) ∧ DV w' v t ∧ (∀ M, M < 4096 → t.ev (bitsF M) = ps.any (holdsP M)) ∧ Below w.heap.size w w' := by
  rcases h with ⟨h1, -⟩ | ⟨-, h2⟩
  · exact absurd hn h1
  · exact h2

set_option maxHeartbeats 16000000 in
theorem paths_walk (P : Option Addr) (n cp : Nat) (ps : List IP) (w : World) (h : PS w P n ps) : Calls Try.prog 7 #[.slice P n cp] w (ER true w) := by
  obtain rfl := h.len
  have H := Lib.hid h; clear h
  by_cases hn : ps.length ≤ 5
  case neg =>
    have f1 : decide (5 < ps.length) = true := by simp; omega
    have f2 : decide ((5 : Int) < (ps.length : Int)) = true := by simp; omega
    go_enter Try.func7, Try.ntmps7
    go_wp2_with (go_at_call 9; refine (awake_any _).mono ?_; rintro e w9 ⟨rfl, q9⟩; have Q9 := Lib.hid q9; clear q9)
    go_ret
    exact ⟨rfl, Q9.out⟩
  have f1 : decide (5 < ps.length) = false := by simp; omega
  have f2 : decide ((5 : Int) < (ps.length : Int)) = false := by simp; omega
  go_enter Try.func7, Try.ntmps7
  go_wp2
  go_loop [3] (fun i => ∃ k : Nat, i = .int .i64 k ∧ k ≤ ps.length ∧ (∀ i (hi : i < ps.length), i < k → (ps[i]).1.length ≤ 6 ∧ (ps[i]).2.length ≤ 6)) (fun i => ps.length - (intOf i).toNat)
  case atStart => exact ⟨0, rfl, by omega, fun i hi h0 => by omega⟩
  case round =>
    obtain ⟨k, rfl, hk, hall⟩ := hrel
    have Hall := Lib.hid hall; clear hall
    by_cases hlt : k < ps.length
    · obtain ⟨a, o, v1, v2, rfl, ha, x0, x1, i1, i2⟩ := H.out.at' k hlt
      have hnx : (ps[k]).1.length ≤ 6 ∧ (ps[k]).2.length ≤ 6 → ∀ i (hi : i < ps.length), i < k + 1 → (ps[i]).1.length ≤ 6 ∧ (ps[i]).2.length ≤ 6 := fun h i hi hik => by
        rcases Nat.lt_succ_iff_lt_or_eq.1 hik with h1 | rfl
        · exact Hall.out i hi h1
        · exact h
      generalize ps[k] = x at *
      obtain ⟨pos, neg⟩ := x
      dsimp only at i1 i2 hnx
      obtain ⟨p1, c1, rfl, hc1, hq1⟩ := i1
      obtain ⟨p2, c2, rfl, hc2, hq2⟩ := i2
      have Hnx := Lib.hid hnx; clear hnx hq1 hq2
      generalize pos.length = n1 at *
      generalize neg.length = n2 at *
      by_cases g1 : n1 ≤ 6
      case neg =>
        have g1' : decide (6 < n1) = true := by simp; omega
        go_wp2_with (go_at_call 9; refine (awake_any _).mono ?_; rintro e w9 ⟨rfl, q9⟩; have Q9 := Lib.hid q9; clear q9)
        go_ret
        exact ⟨rfl, Q9.out⟩
      have g1' : decide (6 < n1) = false := by simp; omega
      by_cases g2 : n2 ≤ 6
      case neg =>
        have g2' : decide (6 < n2) = true := by simp; omega
        go_wp2_with (go_at_call 9; refine (awake_any _).mono ?_; rintro e w9 ⟨rfl, q9⟩; have Q9 := Lib.hid q9; clear q9)
        go_ret
        exact ⟨rfl, Q9.out⟩
      have g2' : decide (6 < n2) = false := by simp; omega
      have Hn := Lib.hid (Hnx.out ⟨g1, g2⟩)
      go_wp2
      exact ⟨⟨k + 1, by go_num, by omega, Hn.out⟩, by simp [intOf]; omega⟩
    · obtain rfl : k = ps.length := by omega
      have hfp := frompaths_any P ps.length cp ps w H.out (by omega) (fun i hi => by have := Hall.out i hi hi; omega)
      have hop := fun wx (hw : Below w.heap.size w wx) => ofpaths_any P ps.length cp ps wx (H.out.below hw) (by omega) (fun i hi => by have := Hall.out i hi hi; omega)
      by_cases hok : okP ps
      case neg =>
        have Hfp := Lib.hid (hfp.mono fun e w' => FR.bad hok)
        have Hop := Lib.hid (fun wx hw => (hop wx hw).mono fun e w' => OR.bad hok)
        clear hfp hop hok
        go_upto_region 9 with (go_at_call 23; refine Hfp.out.mono ?_; rintro e w1 ⟨rfl, q1⟩; have Q1 := Lib.hid q1; clear q1)
        have b2 : Below w1.heap.size w1 (w1.alloc (.cells #[.slice none 0 0, .int .i64 0] 24)) := (Below.refl _ _).alloc (Nat.le_refl _) _
        have n4 := heap_alloc_new w1 (.cells #[.slice none 0 0, .int .i64 0] 24)
        have Q2 := Lib.hid (Q1.out.step b2)
        have N4 := Lib.hid n4
        clear b2 n4
        generalize w1.alloc (.cells #[.slice none 0 0, .int .i64 0] 24) = w2 at *
        go_upto_region 10 with (go_at_call 24; refine (Hop.out _ Q2.out).mono ?_; rintro e w3 ⟨rfl, q3⟩; have Q3 := Lib.hid q3; clear q3)
        have b4 : Below w3.heap.size w3 (w3.alloc (.cells #[.slice none 0 0, .int .i64 0] 24)) := (Below.refl _ _).alloc (Nat.le_refl _) _
        have Q4 := Lib.hid (Q2.out.step (Q3.out.step b4))
        have N5 := Lib.hid (((Q3.out.step b4).block _ (heap_lt N4.out)).trans N4.out)
        clear b4
        generalize w3.alloc (.cells #[.slice none 0 0, .int .i64 0] 24) = w4 at *
        obtain ⟨z0, z1, -⟩ := cells2 N5.out
        go_wp2_with (go_at_call 9; refine (awake_any _).mono ?_; rintro e w9 ⟨rfl, q9⟩; have Q9 := Lib.hid q9; clear q9)
        go_ret
        exact ⟨rfl, Q4.out.step Q9.out⟩
      have Hfp := Lib.hid (hfp.mono fun e w' => FR.good hok)
      have Hop := Lib.hid (fun wx hw => (hop wx hw).mono fun e w' => OR.good hok)
      clear hfp hop hok
      go_upto_region 9 with (go_at_call 23; refine Hfp.out.mono ?_; rintro e w1 ⟨v1, t1, rfl, d1, ev1, q1⟩; obtain ⟨p1, m1, k1, r1, rfl⟩ := d1.opened; have D1 := Lib.hid d1; have E1 := Lib.hid ev1; have Q1 := Lib.hid q1; clear q1 d1 ev1)
      have b2 : Below w1.heap.size w1 (w1.alloc (.cells #[.slice p1 m1 k1, .int .i64 r1] 24)) := (Below.refl _ _).alloc (Nat.le_refl _) _
      have n4 := heap_alloc_new w1 (.cells #[.slice p1 m1 k1, .int .i64 r1] 24)
      have Q2 := Lib.hid (Q1.out.step b2)
      have N4 := Lib.hid n4
      have D2 := Lib.hid (D1.out.below b2)
      clear b2 n4
      generalize w1.alloc (.cells #[.slice p1 m1 k1, .int .i64 r1] 24) = w2 at *
      go_upto_region 10 with (go_at_call 24; refine (Hop.out _ Q2.out).mono ?_; rintro e w3 ⟨v3, t3, rfl, d3, ev3, q3⟩; obtain ⟨p3, m3, k3, r3, rfl⟩ := d3.opened; have D3 := Lib.hid d3; have E3 := Lib.hid ev3; have Q3 := Lib.hid q3; clear q3 d3 ev3)
      obtain rfl : t1 = t3 := ev_eq12 D1.out.ok D3.out.ok fun m hm => (E1.out m).trans (E3.out m hm).symm
      have b4 : Below w3.heap.size w3 (w3.alloc (.cells #[.slice p3 m3 k3, .int .i64 r3] 24)) := (Below.refl _ _).alloc (Nat.le_refl _) _
      have n6 := heap_alloc_new w3 (.cells #[.slice p3 m3 k3, .int .i64 r3] 24)
      have Q4 := Lib.hid (Q2.out.step (Q3.out.step b4))
      have Hra := Lib.hid (((Q3.out.step b4).block _ (heap_lt N4.out)).trans N4.out)
      have Hrb := Lib.hid n6
      have Va := Lib.hid (D2.out.below (Q3.out.step b4))
      have Vb := Lib.hid (D3.out.below b4)
      clear b4 n6
      generalize w3.alloc (.cells #[.slice p3 m3 k3, .int .i64 r3] 24) = wz at *
      obtain ⟨z0a, z1a, -⟩ := cells2 Hra.out
      obtain ⟨z0b, z1b, -⟩ := cells2 Hrb.out
      have La := Lib.hid (heap_lt Hra.out); have Lb := Lib.hid (heap_lt Hrb.out)
      have B0 := Lib.hid (Below.refl wz.heap.size wz)
      go_wp2_with (first
        | (go_at_call 15; ((with_reducible refine (eqd_same _ _ t1 _ (Va.out.below B0.out) (Vb.out.below B0.out)).mono ?_); rintro e x0 ⟨rfl, q⟩; have B1 := Lib.hid (B0.out.step q); obtain ⟨u0a, t0a, -⟩ := cells2 ((B1.out.block _ La.out).trans Hra.out); obtain ⟨u0b, t0b, -⟩ := cells2 ((B1.out.block _ Lb.out).trans Hrb.out); clear q))
        | (go_at_call 11; ((with_reducible refine (valid_tree _ t1 _ (Va.out.below B1.out)).mono ?_); rintro e x1 ⟨rfl, q⟩; have B2 := Lib.hid (B1.out.step q); obtain ⟨u1a, t1a, -⟩ := cells2 ((B2.out.block _ La.out).trans Hra.out); obtain ⟨u1b, t1b, -⟩ := cells2 ((B2.out.block _ Lb.out).trans Hrb.out); clear q))
        | (go_at_call 9; ((with_reducible refine (awake_any _).mono ?_); rintro e x2 ⟨rfl, q⟩; have B3 := Lib.hid (B2.out.step q); obtain ⟨u2a, t2a, -⟩ := cells2 ((B3.out.block _ La.out).trans Hra.out); obtain ⟨u2b, t2b, -⟩ := cells2 ((B3.out.block _ Lb.out).trans Hrb.out); clear q)))
      go_ret
      exact ⟨rfl, Q4.out.step B3.out⟩
end Go.Proofs.Ytkppcibffbnhoaa
