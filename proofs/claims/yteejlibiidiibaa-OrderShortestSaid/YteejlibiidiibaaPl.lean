/-
  Arguments of the laws: integers, graphs, by their cells.
-/
import Derived.Test.YteejlibiidiibaaC0
import Derived.Test.YteejlibiidiibaaOpen
import Derived.ProofKit
import Derived.OpenShut
namespace Go.Proofs.Yteejlibiidiibaa
open Go.ChangeShapes Go.WideShapes Go.ChangeAt Go.RowKit

theorem list_choose {α : Type} {P : Nat → α → Prop} : ∀ n, (∀ i, i < n → ∃ x, P i x) → ∃ l : List α, l.length = n ∧ ∀ i (h : i < l.length), P i l[i] := by
  intro n
  induction n with
  | zero => intro _; exact ⟨[], rfl, fun i h => absurd h (by simp)⟩
  | succ n ih =>
    intro h
    obtain ⟨l, hl, hP⟩ := ih fun i hi => h i (by omega)
    obtain ⟨x, hx⟩ := h n (by omega)
    refine ⟨l ++ [x], by simp [hl], fun i hi => ?_⟩
    by_cases hin : i < l.length
    · rw [List.getElem_append_left hin]; exact hP i hin
    · have hi2 : i = n := by simp at hi; omega
      subst hi2
      rw [List.getElem_append_right (by omega)]
      simpa [hl] using hx
/-- The integers that came in, by their cells. -/
theorem ints_of {H : Type} {enc : TypeId × Value → H} {W : World} {spare : Nat → Bool} {held : Bool} {v : Value} {x : DataW H × List MemPlace} {fuel : Nat} (hf : DataW.trod enc Try.prog W 0 spare held fuel 22 [v] = some x) :
    ∃ xs : List Int, IS W v xs ∧ xs.length ≤ maxLen ∧ ∀ x ∈ xs, (Lit.int .i64 x).wf = true := by
  have hC : Try.prog.cellsOf 3 = 1 := by kernel_rfl
  rcases OpenFields.rows_of Try.underlying22 hf with hcs | ⟨a, l, c, hcs, hl, hm, hi⟩
  · simp only [List.cons.injEq, and_true] at hcs
    subst hcs
    exact ⟨[], IS.nil W, by simp, by simp⟩
  simp only [List.cons.injEq, and_true] at hcs
  subst hcs
  by_cases hz : l = 0
  · subst hz; exact ⟨[], ⟨some a, c, rfl, by simp, RC.nil _ _ _⟩, by simp, by simp⟩
  rw [hC] at hi
  obtain ⟨ab, off, spot⟩ := a
  have hsp : spot = none := by
    obtain ⟨es, n, y, h1, h2, h3⟩ := hi 0 (by omega)
    have h4 := h2 0 (by omega)
    cases es with
    | nil => simp at h1
    | cons x r => simpa [Addr.add] using World.cell?_spot h4
  subst hsp
  obtain ⟨ls, hls, hP⟩ := list_choose (P := fun i (x : Int) => W.cell? ⟨ab, off + i, none⟩ = some (.int .i64 x) ∧ (Lit.int .i64 x).wf = true) l (fun i hil => by
    obtain ⟨es, n, y, h1, h2, h3⟩ := hi i hil
    obtain ⟨x0, g0, gw⟩ := OpenFields.int_of Try.underlying3 h3
    have h5 := h2 0 (by omega)
    rw [OpenFields.add_none, Nat.mul_one, Nat.add_zero, g0] at h5
    exact ⟨x0, h5, gw⟩)
  refine ⟨ls, ⟨some ⟨ab, off, none⟩, c, by rw [hls], by omega, by rw [ic_len, Nat.mul_one], fun h0 => ⟨ab, off, rfl, OpenFields.lt_of_cell (hP 0 h0).1, fun j u hu => ?_⟩⟩, by omega, fun x hx => ?_⟩
  · have hj : j < ls.length := by have := (List.getElem?_eq_some_iff.1 hu).1; rwa [ic_len] at this
    have : u = .int .i64 ls[j] := by
      simp only [ic, List.getElem?_map, List.getElem?_eq_getElem hj, Option.map_some, Option.some.injEq] at hu
      exact hu.symm
    rw [this]; exact (hP j hj).1
  · obtain ⟨j, hj, rfl⟩ := List.mem_iff_getElem.1 hx
    exact (hP j hj).2
/-- The graph that came in, by its cells. -/
theorem graph_of {H : Type} {enc : TypeId × Value → H} {W : World} {spare : Nat → Bool} {held : Bool} {v : Value} {x : DataW H × List MemPlace} {fuel : Nat} (hf : DataW.trod enc Try.prog W 0 spare held fuel 23 [v] = some x) :
    ∃ (p : Option Addr) (k : Nat) (R : Gr), v = .slice p R.length k ∧ GS W p R.length R ∧ R.length ≤ maxLen ∧ (∀ l ∈ R, l.length ≤ maxLen) ∧ ∀ l ∈ R, ∀ x ∈ l, (Lit.int .i64 x).wf = true := by
  have hC : Try.prog.cellsOf 22 = 1 := by kernel_rfl
  rcases OpenFields.rows_of Try.underlying23 hf with hcs | ⟨a, l, c, hcs, hl, hm, hi⟩
  · simp only [List.cons.injEq, and_true] at hcs
    exact ⟨none, 0, [], hcs, ⟨rfl, fun k h => by simp at h⟩, by simp, by simp, by simp⟩
  simp only [List.cons.injEq, and_true] at hcs
  subst hcs
  by_cases hz : l = 0
  · subst hz; exact ⟨some a, c, [], rfl, ⟨rfl, fun k h => by simp at h⟩, by simp, by simp, by simp⟩
  rw [hC] at hi
  obtain ⟨ab, off, spot⟩ := a
  have hsp : spot = none := by
    obtain ⟨es, n, y, h1, h2, h3⟩ := hi 0 (by omega)
    have h4 := h2 0 (by omega)
    cases es with
    | nil => simp at h1
    | cons x r => simpa [Addr.add] using World.cell?_spot h4
  subst hsp
  obtain ⟨ls, hls, hP⟩ := list_choose (P := fun i (x : List Int) => ∃ u, W.cell? ⟨ab, off + i, none⟩ = some u ∧ IS W u x ∧ x.length ≤ maxLen ∧ ∀ y ∈ x, (Lit.int .i64 y).wf = true) l (fun i hil => by
    obtain ⟨es, n, y, h1, h2, h3⟩ := hi i hil
    have h5 := h2 0 (by omega)
    rw [OpenFields.add_none, Nat.mul_one, Nat.add_zero] at h5
    match es, h1 with
    | [e0], _ =>
      obtain ⟨xs, i0, i1, i2⟩ := ints_of (v := e0) h3
      exact ⟨xs, e0, by simpa using h5, i0, i1, i2⟩)
  refine ⟨some ⟨ab, off, none⟩, c, ls, by rw [hls], ⟨rfl, fun k hk => ?_⟩, by omega, fun x hx => ?_, fun x hx => ?_⟩
  · obtain ⟨u, q1, q2, _⟩ := hP k hk
    exact ⟨ab, off, u, rfl, OpenFields.lt_of_cell q1, q1, q2⟩
  · obtain ⟨j, hj, rfl⟩ := List.mem_iff_getElem.1 hx
    obtain ⟨u, _, _, q, _⟩ := hP j hj; exact q
  · obtain ⟨j, hj, rfl⟩ := List.mem_iff_getElem.1 hx
    obtain ⟨u, _, _, _, q⟩ := hP j hj; exact q
end Go.Proofs.Yteejlibiidiibaa
