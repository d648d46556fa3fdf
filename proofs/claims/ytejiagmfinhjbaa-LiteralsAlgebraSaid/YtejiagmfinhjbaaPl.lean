/-
  Arguments of the laws: sets of names and slices of strings, by their cells.
-/
import Derived.Test.YtejiagmfinhjbaaOf
import Derived.Test.YtejiagmfinhjbaaOa
import Derived.Test.YtejiagmfinhjbaaOpen
import Derived.ProofKit
import Derived.OpenShut
namespace Go.Proofs.Ytejiagmfinhjbaa
open Go.ChangeShapes Go.WideShapes Go.ChangeAt Go.RowKit Go.Names

theorem list_choose {P : Nat → ByteArray → Prop} : ∀ n, (∀ i, i < n → ∃ x, P i x) → ∃ l : List ByteArray, l.length = n ∧ ∀ i (h : i < l.length), P i l[i] := by
  intro n
  induction n with
  | zero => intro _; exact ⟨[], rfl, fun i h => absurd h (by simp)⟩
  | succ n ih =>
    intro h
    obtain ⟨l, hl, hP⟩ := ih fun i hi => h i (by omega)
    obtain ⟨x, hx⟩ := h n (by omega)
    refine ⟨l ++ [x], by simp [hl], fun i hi => ?_⟩
    by_cases hin : i < l.length
    · rw [List.getElem_append_left hin]; exact hP i hin
    · have hi2 : i = n := by simp at hi; omega
      subst hi2
      rw [List.getElem_append_right (by omega)]
      simpa [hl] using hx
/-- The strings that came in, by their cells. -/
theorem names_of {H : Type} {enc : TypeId × Value → H} {W : World} {spare : Nat → Bool} {held : Bool} {v : Value} {x : DataW H × List MemPlace} {fuel : Nat} (hf : DataW.trod enc Try.prog W 0 spare held fuel 22 [v] = some x) :
    ∃ (p : Option Addr) (k : Nat) (L : List Nm), v = .slice p L.length k ∧ SL W p L := by
  have hC : Try.prog.cellsOf 9 = 1 := by kernel_rfl
  rcases OpenFields.rows_of Try.underlying22 hf with hcs | ⟨a, l, c, hcs, hl, hm, hi⟩
  · simp only [List.cons.injEq, and_true] at hcs
    exact ⟨none, 0, [], hcs, SL.nil _ _⟩
  simp only [List.cons.injEq, and_true] at hcs
  subst hcs
  by_cases hz : l = 0
  · subst hz; exact ⟨some a, c, [], rfl, SL.nil _ _⟩
  rw [hC] at hi
  obtain ⟨ab, off, spot⟩ := a
  have hsp : spot = none := by
    obtain ⟨es, n, y, h1, h2, h3⟩ := hi 0 (by omega)
    have h4 := h2 0 (by omega)
    cases es with
    | nil => simp at h1
    | cons x r => simpa [Addr.add] using World.cell?_spot h4
  subst hsp
  obtain ⟨ls, hls, hP⟩ := list_choose (P := fun i x => W.cell? ⟨ab, off + i, none⟩ = some (.string x) ∧ x.size ≤ maxLen) l (fun i hil => by
    obtain ⟨es, n, y, h1, h2, h3⟩ := hi i hil
    obtain ⟨x0, g0, k0⟩ := OpenFields.string_of Try.underlying9 h3
    have h5 := h2 0 (by omega)
    rw [OpenFields.add_none, Nat.mul_one, Nat.add_zero, g0] at h5
    exact ⟨x0, h5, k0⟩)
  have hst : Strs W (some ⟨ab, off, none⟩) ls := ⟨fun i h => ⟨ab, off, rfl, OpenFields.lt_of_cell (hP i h).1, (hP i h).1⟩, fun i h => (hP i h).2⟩
  have hle : (bys ls).length = l := by unfold bys; rw [List.length_map, hls]
  exact ⟨some ⟨ab, off, none⟩, c, bys ls, by rw [hle], SL.of_strs hst⟩
/-- The set that came in. -/
theorem set_of {H : Type} {enc : TypeId × Value → H} {W : World} {spare : Nat → Bool} {held : Bool} {cs : Array Value} {x : DataW H × List MemPlace} {fuel : Nat} (hcs : cs.size = Try.prog.cellsOf 25) (hf : DataW.trod enc Try.prog W 0 spare held fuel 25 (Value.agg cs).cells.toList = some x) :
    ∃ (c : Bool) (p : Option Addr) (k : Nat) (L : List Nm), cs = #[.bool c, .slice p L.length k] ∧ SL W p L := by
  have hC : Try.prog.cellsOf 25 = 2 := by kernel_rfl
  have c4 : Try.prog.cellsOf 4 = 1 := by kernel_rfl
  have c22 : Try.prog.cellsOf 22 = 1 := by kernel_rfl
  rw [hC] at hcs
  obtain ⟨_, _, f0⟩ := OpenFields.field_of Try.underlying25 hf 0 4 0 1 rfl c4
  obtain ⟨m1, y1, f1⟩ := OpenFields.field_of Try.underlying25 hf 1 22 1 1 rfl c22
  obtain ⟨c, g0, _⟩ := DataW.trod_bool Try.underlying4 f0
  obtain ⟨l⟩ := cs
  match l, hcs with
  | [v0, v1], _ =>
    have g0' : v0 = .bool c := by simpa [Value.cells] using g0
    have f1' : DataW.trod enc Try.prog W 0 spare held m1 22 [v1] = some y1 := by simpa [Value.cells] using f1
    obtain ⟨p, k, L, rfl, hS⟩ := names_of f1'
    subst g0'
    exact ⟨c, p, k, L, rfl, hS⟩
end Go.Proofs.Ytejiagmfinhjbaa
