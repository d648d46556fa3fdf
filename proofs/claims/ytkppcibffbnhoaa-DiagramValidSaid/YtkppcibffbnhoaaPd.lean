/-
  Arguments of the laws: a diagram, by its cells.
-/
import Derived.Test.YtkppcibffbnhoaaPl
import Derived.Test.YtkppcibffbnhoaaD1
namespace Go.Proofs.Ytkppcibffbnhoaa
open Go.ChangeShapes Go.WideShapes Go.ChangeAt Go.RowKit

theorem nodes_of {H : Type} {enc : TypeId × Value → H} {W : World} {spare : Nat → Bool} {held : Bool} {v : Value} {x : DataW H × List MemPlace} {fuel : Nat} (hf : DataW.trod enc Try.prog W 0 spare held fuel 22 [v] = some x) :
    ∃ (p : Option Addr) (k : Nat) (N : List IT), v = .slice p N.length k ∧ NI W p N := by
  have hC : Try.prog.cellsOf 32 = 3 := by kernel_rfl
  have c3 : Try.prog.cellsOf 3 = 1 := by kernel_rfl
  rcases OpenFields.rows_of Try.underlying22 hf with hcs | ⟨a, l, c, hcs, hl, hm, hi⟩
  · simp only [List.cons.injEq, and_true] at hcs
    exact ⟨none, 0, [], hcs, fun k h => by simp at h⟩
  simp only [List.cons.injEq, and_true] at hcs
  subst hcs
  by_cases hz : l = 0
  · subst hz; exact ⟨some a, c, [], rfl, fun k h => by simp at h⟩
  rw [hC] at hi
  obtain ⟨ab, off, spot⟩ := a
  have hsp : spot = none := by
    obtain ⟨es, n, y, h1, h2, h3⟩ := hi 0 (by omega)
    have h4 := h2 0 (by omega)
    cases es with
    | nil => simp at h1
    | cons x r => simpa [Addr.add] using World.cell?_spot h4
  subst hsp
  obtain ⟨ls, hls, hP⟩ := list_choose (P := fun i (x : IT) => W.cell? ⟨ab, off + i * 3, none⟩ = some (.int .i64 x.1) ∧ W.cell? ⟨ab, off + i * 3 + 1, none⟩ = some (.int .i64 x.2.1) ∧ W.cell? ⟨ab, off + i * 3 + 2, none⟩ = some (.int .i64 x.2.2)) l (fun i hil => by
    obtain ⟨es, n, y, h1, h2, h3⟩ := hi i hil
    have h5 := h2 0 (by omega)
    have h6 := h2 1 (by omega)
    have h7 := h2 2 (by omega)
    rw [OpenFields.add_none] at h5 h6 h7
    obtain ⟨m0, y0, f0⟩ := OpenFields.field_of Try.underlying32 h3 0 3 0 1 rfl c3
    obtain ⟨m1, y1, f1⟩ := OpenFields.field_of Try.underlying32 h3 1 3 1 1 rfl c3
    obtain ⟨m2, y2, f2⟩ := OpenFields.field_of Try.underlying32 h3 2 3 2 1 rfl c3
    match es, h1 with
    | [e0, e1, e2], _ =>
      obtain ⟨x0, g0, _⟩ := OpenFields.int_of Try.underlying3 f0
      obtain ⟨x1, g1, _⟩ := OpenFields.int_of Try.underlying3 f1
      obtain ⟨x2, g2, _⟩ := OpenFields.int_of Try.underlying3 f2
      simp only [List.drop_zero, List.drop_succ_cons, List.take_succ_cons, List.take_zero, List.cons.injEq, and_true, List.getElem?_cons_zero, Option.some.injEq] at g0 g1 g2
      subst g0 g1 g2
      exact ⟨(x0, x1, x2), by simpa using h5, by simpa [Nat.add_assoc] using h6, by simpa [Nat.add_assoc] using h7⟩)
  refine ⟨some ⟨ab, off, none⟩, c, ls, by rw [hls], fun k hk => ?_⟩
  obtain ⟨q1, q2, q3⟩ := hP k hk
  exact ⟨ab, off, rfl, OpenFields.lt_of_cell q1, q1, q2, q3⟩
theorem diag_of {H : Type} {enc : TypeId × Value → H} {W : World} {spare : Nat → Bool} {held : Bool} {cs : Array Value} {x : DataW H × List MemPlace} {fuel : Nat} (hcs : cs.size = Try.prog.cellsOf 24) (hf : DataW.trod enc Try.prog W 0 spare held fuel 24 (Value.agg cs).cells.toList = some x) :
    ∃ (p : Option Addr) (k : Nat) (N : List IT) (r : Int), cs = #[.slice p N.length k, .int .i64 r] ∧ NI W p N := by
  have hC : Try.prog.cellsOf 24 = 2 := by kernel_rfl
  have c3 : Try.prog.cellsOf 3 = 1 := by kernel_rfl
  have c22 : Try.prog.cellsOf 22 = 1 := by kernel_rfl
  rw [hC] at hcs
  obtain ⟨m0, y0, f0⟩ := OpenFields.field_of Try.underlying24 hf 0 22 0 1 rfl c22
  obtain ⟨m1, y1, f1⟩ := OpenFields.field_of Try.underlying24 hf 1 3 1 1 rfl c3
  obtain ⟨l⟩ := cs
  match l, hcs with
  | [v0, v1], _ =>
    obtain ⟨r, g1, _⟩ := OpenFields.int_of Try.underlying3 f1
    have f0' : DataW.trod enc Try.prog W 0 spare held m0 22 [v0] = some y0 := by simpa [Value.cells] using f0
    obtain ⟨p, k, N, rfl, hS⟩ := nodes_of f0'
    have g1' : v1 = .int .i64 r := by simpa [Value.cells] using g1
    subst g1'
    exact ⟨p, k, N, r, rfl, hS⟩
end Go.Proofs.Ytkppcibffbnhoaa
