/-
  Walks: awake.
-/
import Derived.Test.YteejlibiidiibaaW3
import Derived.Test.YteejlibiidiibaaU5
import Derived.Test.YteejlibiidiibaaE5
namespace Go.Proofs.Yteejlibiidiibaa
open Go.RowKit
set_option maxRecDepth 100000
theorem is_row {w : World} {b : Nat} {cs : Array Value} {xs : List Int} (h : w.heap[b]? = some (.cells cs 3)) (e : cs = (ic xs).toArray) : IS w (.slice (some ⟨b, 0, none⟩) xs.length xs.length) xs :=
  ⟨_, _, rfl, Nat.le_refl _, by simp [ic_len], fun _ => ⟨b, 0, rfl, heap_lt h, fun j u hu => by subst e; simp [World.cell?, h, hu]⟩⟩
theorem e0_gs {w w1 w2 w3 w4 : World} (h1 : w1 = w.alloc (.cells #[.int .i64 1] 3)) (h2 : w2 = w1.alloc (.cells #[.int .i64 0, .int .i64 2] 3)) (h3 : w3 = w2.alloc (.cells #[] 3))
    (h4 : w4 = w3.alloc (.cells #[.slice (some ⟨w.heap.size, 0, none⟩) 1 1, .slice (some ⟨w.heap.size + 1, 0, none⟩) 2 2, .slice (some ⟨w.heap.size + 2, 0, none⟩) 0 0] 22)) : GS w4 (some ⟨w.heap.size + 3, 0, none⟩) 3 E0 ∧ Below w.heap.size w w4 := by
  have s1 : w1.heap.size = w.heap.size + 1 := by rw [h1]; simp
  have s2 : w2.heap.size = w.heap.size + 2 := by rw [h2]; simp [s1]
  have s3 : w3.heap.size = w.heap.size + 3 := by rw [h3]; simp [s2]
  have s4 : w4.heap.size = w.heap.size + 4 := by rw [h4]; simp [s3]
  have b1 : Below w.heap.size w w1 := h1 ▸ (Below.refl _ _).alloc (Nat.le_refl _) _
  have b2 : Below w1.heap.size w1 w2 := h2 ▸ (Below.refl _ _).alloc (Nat.le_refl _) _
  have b3 : Below w2.heap.size w2 w3 := h3 ▸ (Below.refl _ _).alloc (Nat.le_refl _) _
  have b4 : Below w3.heap.size w3 w4 := h4 ▸ (Below.refl _ _).alloc (Nat.le_refl _) _
  have n1 : w1.heap[w.heap.size]? = _ := h1 ▸ heap_alloc_new w _
  have n2 : w2.heap[w1.heap.size]? = _ := h2 ▸ heap_alloc_new w1 _
  have n3 : w3.heap[w2.heap.size]? = _ := h3 ▸ heap_alloc_new w2 _
  have n4 : w4.heap[w3.heap.size]? = _ := h4 ▸ heap_alloc_new w3 _
  rw [s1] at n2; rw [s2] at n3; rw [s3] at n4
  have m1 := ((b4.block w.heap.size (by omega)).trans ((b3.block w.heap.size (by omega)).trans (b2.block w.heap.size (by omega)))).trans n1
  have m2 := ((b4.block (w.heap.size + 1) (by omega)).trans (b3.block (w.heap.size + 1) (by omega))).trans n2
  have m3 := (b4.block (w.heap.size + 2) (by omega)).trans n3
  refine ⟨⟨rfl, fun k hk => ?_⟩, ((b1.step b2).step b3).step b4⟩
  have hk3 : k < 3 := hk
  refine match k, hk3 with
    | 0, _ => ⟨w.heap.size + 3, 0, _, rfl, by omega, by simp [World.cell?, n4], is_row (xs := [1]) m1 rfl⟩
    | 1, _ => ⟨w.heap.size + 3, 0, _, rfl, by omega, by simp [World.cell?, n4], is_row (xs := [0, 2]) m2 rfl⟩
    | 2, _ => ⟨w.heap.size + 3, 0, _, rfl, by omega, by simp [World.cell?, n4], is_row (xs := []) m3 rfl⟩
theorem e0_rows : ∀ l ∈ E0, l.length ≤ 1000 := by
  intro l hl
  simp only [E0, List.mem_cons, List.not_mem_nil, or_false] at hl
  rcases hl with rfl | rfl | rfl <;> decide
set_option maxHeartbeats 16000000 in
theorem awake_any (w : World) : Calls Try.prog 13 #[] w (ER true w) := by
  obtain ⟨hg, hb⟩ := e0_gs (w := w) rfl rfl rfl rfl
  go_enter Try.func13, Try.ntmps13
  go_upto_region 2 with fail
  generalize (((w.alloc (.cells #[.int .i64 1] 3)).alloc (.cells #[.int .i64 0, .int .i64 2] 3)).alloc (.cells #[] 3)).alloc (.cells #[.slice (some ⟨w.heap.size, 0, none⟩) 1 1, .slice (some ⟨w.heap.size + 1, 0, none⟩) 2 2, .slice (some ⟨w.heap.size + 2, 0, none⟩) 0 0] 22) = w4 at *
  have Hg := Lib.hid hg; have Hb := Lib.hid hb
  clear hg hb
  go_upto_region 3 with (go_at_call 11; go_loud (refine (comps_any _ _ 3 3 E0 Hg.out e0_small (by omega) e0_rows).mono ?_); rintro e w5 ⟨out, p5, c5, rfl, hg5, ht5, ha5, hb5⟩; obtain rfl := e0_out ht5 ha5; have Hg5 := Lib.hid hg5; have Hb5 := Lib.hid hb5; clear ht5 ha5 hg5 hb5)
  obtain ⟨a, o, v0, hp0, ha, z0, hI0⟩ := Hg5.out.at' 0 (by decide)
  obtain ⟨a', o', v1, hp1, _, z1, hI1⟩ := Hg5.out.at' 1 (by decide)
  rw [hp0] at hp1
  injection hp1 with hp1; injection hp1 with e1 e2; subst e1 e2 hp0
  obtain ⟨q0, d0, rfl, hd0, hr0⟩ := hI0
  obtain ⟨q1, d1, rfl, hd1, hr1⟩ := hI1
  simp only [List.getElem_cons_zero, List.getElem_cons_succ, List.length_cons, List.length_nil, Nat.add_zero, Nat.zero_add] at z0 z1 hd0 hd1 hr0 hr1
  obtain ⟨a2, o2, rfl, ha2, y0⟩ := hr0.at (m := 0) (by simp)
  simp only [List.getElem_cons_zero, Nat.add_zero] at y0
  have Hz := Lib.hid (show ∀ w', Below w5.heap.size w5 w' → w'.cell? ⟨a, o, none⟩ = some (.slice (some ⟨a2, o2, none⟩) 1 d0) ∧ w'.cell? ⟨a, o + 1, none⟩ = some (.slice q1 2 d1) from fun w' hb => ⟨(hb.cell (p := ⟨a, o, none⟩) ha).trans z0, (hb.cell (p := ⟨a, o + 1, none⟩) ha).trans z1⟩)
  have HI0 := Lib.hid (show IS w5 (.slice (some ⟨a2, o2, none⟩) 1 d0) [2] from ⟨_, d0, rfl, hd0, hr0⟩)
  have HI1 := Lib.hid (show IS w5 (.slice q1 2 d1) [0, 1] from ⟨_, d1, rfl, hd1, hr1⟩)
  have Hw1 := Lib.hid (show ∀ x ∈ ([0, 1] : List Int), wfI x from fun x hx => by
    simp only [List.mem_cons, List.not_mem_nil, or_false] at hx
    rcases hx with rfl | rfl <;> (unfold wfI; decide))
  have Hw2 := Lib.hid (show ∀ x ∈ ([2] : List Int), wfI x from fun x hx => by
    simp only [List.mem_cons, List.not_mem_nil, or_false] at hx
    subst hx; unfold wfI; decide)
  have HE := Lib.hid (show GS w5 (some ⟨w.heap.size + 3, 0, none⟩) 3 E0 from Hg.out.below Hb5.out)
  clear hr0 hr1 hd0 hd1
  rw [show w.heap.size + 1 + 1 + 1 = w.heap.size + 3 from rfl]
  generalize w.heap.size + 3 = B at *
  go_wp2_with (first
    | (go_at_call 15; refine (cycle_any w5 _ 3 3 E0 HE.out e0_small (by omega) e0_rows).mono ?_; rintro e w6 ⟨xs, v6, hcy, rfl, his, -, hb6⟩; have hl6 := e0_cyc hcy; obtain ⟨p6, c6, rfl, -, -⟩ := his; rw [hl6]; obtain ⟨x0, x1⟩ := Hz.out w6 hb6; have Hb6 := Lib.hid hb6; have R1 := Lib.hid (rec_any w6 _ 3 3 E0 [0, 1] (.slice q1 2 d1) (HE.out.below hb6) e0_small (HI1.out.below hb6) (by simp) Hw1.out); clear hcy hl6 hb6)
    | (go_at_call 19; refine R2.out.mono ?_; rintro e w8 ⟨rfl, hb8⟩; rw [e0_rec2]; have Hb8 := Lib.hid (Hb7.out.step hb8); clear hb8)
    | (go_at_call 19; refine R1.out.mono ?_; rintro e w7 ⟨rfl, hb7⟩; rw [e0_rec1]; obtain ⟨t0, t1⟩ := Hz.out w7 (Hb6.out.step hb7); have Hb7 := Lib.hid (Hb6.out.step hb7); have R2 := Lib.hid (rec_any w7 _ 3 3 E0 [2] (.slice (some ⟨a2, o2, none⟩) 1 d0) (HE.out.below Hb7.out) e0_small (HI0.out.below Hb7.out) (by simp) Hw2.out); clear hb7))
  go_ret
  exact ⟨rfl, (Hb.out.step Hb5.out).step Hb8.out⟩
end Go.Proofs.Yteejlibiidiibaa
