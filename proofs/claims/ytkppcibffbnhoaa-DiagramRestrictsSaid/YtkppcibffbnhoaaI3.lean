/-
  Plain parts of DiagramValid: Valid and ValidDiagram agree; a copied row of nodes, one number changed.
-/
import Derived.Test.YtkppcibffbnhoaaI1
import Derived.Test.YtkppcibffbnhoaaH2
namespace Go.Proofs.Ytkppcibffbnhoaa
open Go.RowKit
set_option maxRecDepth 100000

/-- g says whether the nodes and the root are good. -/
structure GB (g : Bool) (N : List IT) (r : Int) : Prop where
  iff : g = true ↔ Good N r
theorem good_bool (N : List IT) (r : Int) : ∃ g : Bool, GB g N r := by
  classical exact ⟨decide (Good N r), ⟨by simp⟩⟩
theorem VR.is {N : List IT} {r : Int} {w : World} {g : Bool} (hg : g = true ↔ Good N r) {e : Ending} {w' : World} (h : VR N r w e w') : ER g w e w' := by
  obtain ⟨b, rfl, hb, hw⟩ := h
  have : b = g := by
    cases b <;> cases g <;> first | rfl | exact absurd (hb.1 rfl) (fun x => Bool.noConfusion (hg.2 x)) | exact absurd (hg.1 rfl) (fun x => Bool.noConfusion (hb.2 x))
  subst this
  exact ⟨rfl, hw⟩
theorem valid_is (p : Option Addr) (n cap : Nat) (N : List IT) (r : Int) (g : Bool) (w : World) (hn : n = N.length) (hni : NI w p N) (hN : N.length ≤ 65536) (hg : GB g N r) :
    Calls Try.prog 11 #[.agg #[.slice p n cap, .int .i64 r]] w (ER g w) := by
  subst hn
  exact (valid_any p cap N r w hni hN).mono fun _ _ h => h.is hg.iff
theorem validd_is (p : Option Addr) (n cap : Nat) (N : List IT) (r : Int) (g : Bool) (w : World) (hn : n = N.length) (hni : NI w p N) (hN : N.length ≤ 65536) (hg : GB g N r) :
    Calls Try.prog 12 #[.agg #[.slice p n cap, .int .i64 r]] w (ER g w) := by
  subst hn
  exact (validd_any p cap N r w hni hN).mono fun _ _ h => h.is hg.iff
theorem tri_one (N : List Tri) : ∀ u ∈ triCells N, u.oneCell' = true := by
  intro u hu
  simp only [triCells, List.mem_flatMap, triC] at hu
  obtain ⟨x, -, hu⟩ := hu
  simp only [List.mem_cons, List.not_mem_nil, or_false] at hu
  obtain rfl | rfl | rfl := hu <;> rfl
theorem NS.rc {w : World} {p : Option Addr} {N : List Tri} (h : NS w p N) : RC w 3 p N.length (triCells N) := by
  refine ⟨triCells_len N, fun hn => ?_⟩
  obtain ⟨a, o, rfl, ha, -, -, -⟩ := h 0 hn
  refine ⟨a, o, rfl, ha, fun j u hu => ?_⟩
  have hj : j < (triCells N).length := (List.getElem?_eq_some_iff.1 hu).1
  rw [triCells_len] at hj
  have hk : j / 3 < N.length := by omega
  obtain ⟨a', o', e, -, c0, c1, c2⟩ := h (j / 3) hk
  cases e
  obtain ⟨g0, g1, g2⟩ := triCells_get N (j / 3) hk
  have hm : j % 3 = 0 ∨ j % 3 = 1 ∨ j % 3 = 2 := by omega
  rcases hm with hm | hm | hm
  · have e : 3 * (j / 3) = j := by omega
    rw [e] at g0
    rw [show j / 3 * 3 = j by omega] at c0
    rw [c0, ← hu, g0]
  · have e : 3 * (j / 3) + 1 = j := by omega
    rw [e] at g1
    rw [show o + j / 3 * 3 + 1 = o + j by omega] at c1
    rw [c1, ← hu, g1]
  · have e : 3 * (j / 3) + 2 = j := by omega
    rw [e] at g2
    rw [show o + j / 3 * 3 + 2 = o + j by omega] at c2
    rw [c2, ← hu, g2]
/-- One Low changed. -/
def lowPut (N : List IT) (i : Nat) (x : Int) : List IT := N.mapIdx fun k y => if k = i then (y.1, y.2.1, x) else y
theorem lowPut_len (N : List IT) (i : Nat) (x : Int) : (lowPut N i x).length = N.length := by simp [lowPut]
theorem cell_ne {w : World} {g j m : Nat} {v : Value} (h : m ≠ j) : (w.setCell ⟨g, j, none⟩ v).cell? ⟨g, m, none⟩ = w.cell? ⟨g, m, none⟩ :=
  World.cell?_setCell_other (h := fun e => h (by cases e; rfl)) ..
theorem NI.put {w : World} {g : Nat} {N : List IT} (h : NI w (some ⟨g, 0, none⟩) N) (i : Nat) (x : Int) : NI (w.setCell ⟨g, i * 3 + 2, none⟩ (.int .i64 x)) (some ⟨g, 0, none⟩) (lowPut N i x) := by
  intro k hk
  rw [lowPut_len] at hk
  obtain ⟨a, o, e, ha, c0, c1, c2⟩ := h k hk
  cases e
  simp only [Nat.zero_add] at c0 c1 c2
  refine ⟨g, 0, rfl, by simpa [World.setCell] using ha, ?_, ?_, ?_⟩ <;> simp only [Nat.zero_add]
  · rw [cell_ne (by omega), c0]; simp only [lowPut, List.getElem_mapIdx]; split <;> rfl
  · rw [cell_ne (by omega), c1]; simp only [lowPut, List.getElem_mapIdx]; split <;> rfl
  · by_cases e : k = i
    · subst e
      rw [World.cell?_setCell_same (h := c2)]; simp only [lowPut, List.getElem_mapIdx]; simp
    · rw [cell_ne (by omega), c2]; simp only [lowPut, List.getElem_mapIdx]; rw [if_neg e]
theorem own_free {w : World} {B g n cap : Nat} {N : List Tri} (h : w.ownsRow B 32 3 (.slice (some ⟨g, 0, none⟩) n cap) N.length (triCells N)) (hn : 0 < N.length) : B ≤ g ∧ ∀ i, w.frozen? ⟨g, i, none⟩ = false := by
  rcases h.2 with ⟨e, h0⟩ | ⟨g', cap', cur, e, hB, hb, -⟩
  · omega
  · cases e
    exact ⟨hB, fun i => by simp [World.frozen?, hb]⟩
/-- 'int(uint(k) % uint(n))'. -/
theorem rem_nat (k : Int) (n : Nat) (hn : 0 < n) (hn2 : n ≤ 4095) : ∃ i : Nat, i < n ∧ wrap64 ((IntKind.u64.wrap k).tmod (n : Int)) = (i : Int) := by
  rw [wrap_u64]
  have h0 : 0 ≤ k % 18446744073709551616 := Int.emod_nonneg _ (by omega)
  rw [Int.tmod_eq_emod_of_nonneg h0]
  have h1 : 0 ≤ k % 18446744073709551616 % (n : Int) := Int.emod_nonneg _ (by omega)
  have h2 : k % 18446744073709551616 % (n : Int) < (n : Int) := Int.emod_lt_of_pos _ (by omega)
  generalize k % 18446744073709551616 % (n : Int) = x at *
  exact ⟨x.toNat, by omega, by unfold wrap64; omega⟩
theorem set_other {g j k : Nat} {w : World} {v : Value} (h : k ≠ g) : (w.setCell ⟨g, j, none⟩ v).heap[k]? = w.heap[k]? := by
  simp only [World.setCell, Array.getElem?_modify]; rw [if_neg (by omega)]
/-- The change is behind what was there. -/
theorem below_set {B g j : Nat} {w wr : World} {v : Value} (h : Below B w wr) (hg : B ≤ g) : Below B w (wr.setCell ⟨g, j, none⟩ v) :=
  ⟨h.os, h.tape, h.output, by simpa [World.setCell] using h.size, fun k hk => by rw [show (wr.setCell ⟨g, j, none⟩ v).heap[k]? = wr.heap[k]? by (simp only [World.setCell, Array.getElem?_modify]; rw [if_neg (by omega)])]; exact h.block k hk⟩
end Go.Proofs.Ytkppcibffbnhoaa
