/-
  Arguments of the laws: paths, diagrams, by their cells.
-/
import Derived.Test.YtkppcibffbnhoaaG1
import Derived.Test.YtkppcibffbnhoaaOpen
import Derived.ProofKit
import Derived.OpenShut
namespace Go.Proofs.Ytkppcibffbnhoaa
open Go.ChangeShapes Go.WideShapes Go.ChangeAt Go.RowKit

theorem list_choose {α : Type} {P : Nat → α → Prop} : ∀ n, (∀ i, i < n → ∃ x, P i x) → ∃ l : List α, l.length = n ∧ ∀ i (h : i < l.length), P i l[i] := by
  intro n
  induction n with
  | zero => intro _; exact ⟨[], rfl, fun i h => absurd h (by simp)⟩
  | succ n ih =>
    intro h
    obtain ⟨l, hl, hP⟩ := ih fun i hi => h i (by omega)
    obtain ⟨x, hx⟩ := h n (by omega)
    refine ⟨l ++ [x], by simp [hl], fun i hi => ?_⟩
    by_cases hin : i < l.length
    · rw [List.getElem_append_left hin]; exact hP i hin
    · have hi2 : i = n := by simp at hi; omega
      subst hi2
      rw [List.getElem_append_right (by omega)]
      simpa [hl] using hx
/-- The integers that came in, by their cells. -/
theorem ints_of {H : Type} {enc : TypeId × Value → H} {W : World} {spare : Nat → Bool} {held : Bool} {v : Value} {x : DataW H × List MemPlace} {fuel : Nat} (hf : DataW.trod enc Try.prog W 0 spare held fuel 44 [v] = some x) : ∃ xs, IS W v xs := by
  have hC : Try.prog.cellsOf 3 = 1 := by kernel_rfl
  rcases OpenFields.rows_of Try.underlying44 hf with hcs | ⟨a, l, c, hcs, hl, hm, hi⟩
  · simp only [List.cons.injEq, and_true] at hcs
    subst hcs
    exact ⟨[], IS.nil W⟩
  simp only [List.cons.injEq, and_true] at hcs
  subst hcs
  by_cases hz : l = 0
  · subst hz; exact ⟨[], some a, c, rfl, by simp, RC.nil _ _ _⟩
  rw [hC] at hi
  obtain ⟨ab, off, spot⟩ := a
  have hsp : spot = none := by
    obtain ⟨es, n, y, h1, h2, h3⟩ := hi 0 (by omega)
    have h4 := h2 0 (by omega)
    cases es with
    | nil => simp at h1
    | cons x r => simpa [Addr.add] using World.cell?_spot h4
  subst hsp
  obtain ⟨ls, hls, hP⟩ := list_choose (P := fun i (x : Int) => W.cell? ⟨ab, off + i, none⟩ = some (.int .i64 x)) l (fun i hil => by
    obtain ⟨es, n, y, h1, h2, h3⟩ := hi i hil
    obtain ⟨x0, g0, _⟩ := OpenFields.int_of Try.underlying3 h3
    have h5 := h2 0 (by omega)
    rw [OpenFields.add_none, Nat.mul_one, Nat.add_zero, g0] at h5
    exact ⟨x0, h5⟩)
  refine ⟨ls, some ⟨ab, off, none⟩, c, by rw [hls], by omega, by rw [ic_len, Nat.mul_one], fun h0 => ⟨ab, off, rfl, OpenFields.lt_of_cell (hP 0 h0), fun j u hu => ?_⟩⟩
  have hj : j < ls.length := by have := (List.getElem?_eq_some_iff.1 hu).1; rwa [ic_len] at this
  have : u = .int .i64 ls[j] := by
    simp only [ic, List.getElem?_map, List.getElem?_eq_getElem hj, Option.map_some, Option.some.injEq] at hu
    exact hu.symm
  rw [this]; exact hP j hj
/-- The paths that came in, by their cells. -/
theorem paths_of {H : Type} {enc : TypeId × Value → H} {W : World} {spare : Nat → Bool} {held : Bool} {v : Value} {x : DataW H × List MemPlace} {fuel : Nat} (hf : DataW.trod enc Try.prog W 0 spare held fuel 25 [v] = some x) :
    ∃ (p : Option Addr) (k : Nat) (ps : List IP), v = .slice p ps.length k ∧ PS W p ps.length ps := by
  have hC : Try.prog.cellsOf 46 = 2 := by kernel_rfl
  have c44 : Try.prog.cellsOf 44 = 1 := by kernel_rfl
  rcases OpenFields.rows_of Try.underlying25 hf with hcs | ⟨a, l, c, hcs, hl, hm, hi⟩
  · simp only [List.cons.injEq, and_true] at hcs
    exact ⟨none, 0, [], hcs, ⟨rfl, fun k h => by simp at h⟩⟩
  simp only [List.cons.injEq, and_true] at hcs
  subst hcs
  by_cases hz : l = 0
  · subst hz; exact ⟨some a, c, [], rfl, ⟨rfl, fun k h => by simp at h⟩⟩
  rw [hC] at hi
  obtain ⟨ab, off, spot⟩ := a
  have hsp : spot = none := by
    obtain ⟨es, n, y, h1, h2, h3⟩ := hi 0 (by omega)
    have h4 := h2 0 (by omega)
    cases es with
    | nil => simp at h1
    | cons x r => simpa [Addr.add] using World.cell?_spot h4
  subst hsp
  obtain ⟨ls, hls, hP⟩ := list_choose (P := fun i (x : IP) => ∃ v1 v2, W.cell? ⟨ab, off + i * 2, none⟩ = some v1 ∧ W.cell? ⟨ab, off + i * 2 + 1, none⟩ = some v2 ∧ IS W v1 x.1 ∧ IS W v2 x.2) l (fun i hil => by
    obtain ⟨es, n, y, h1, h2, h3⟩ := hi i hil
    have h5 := h2 0 (by omega)
    have h6 := h2 1 (by omega)
    rw [OpenFields.add_none] at h5 h6
    obtain ⟨m0, y0, f0⟩ := OpenFields.field_of Try.underlying46 h3 0 44 0 1 rfl c44
    obtain ⟨m1, y1, f1⟩ := OpenFields.field_of Try.underlying46 h3 1 44 1 1 rfl c44
    match es, h1 with
    | [e0, e1], _ =>
      obtain ⟨xs, i0⟩ := ints_of (v := e0) f0
      obtain ⟨ys, i1⟩ := ints_of (v := e1) f1
      exact ⟨(xs, ys), e0, e1, by simpa using h5, by simpa [Nat.add_assoc] using h6, i0, i1⟩)
  refine ⟨some ⟨ab, off, none⟩, c, ls, by rw [hls], ⟨rfl, fun k hk => ?_⟩⟩
  obtain ⟨v1, v2, q1, q2, q3, q4⟩ := hP k hk
  exact ⟨ab, off, v1, v2, rfl, OpenFields.lt_of_cell q1, q1, q2, q3, q4⟩
end Go.Proofs.Ytkppcibffbnhoaa
