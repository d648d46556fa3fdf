/-
  Arguments of the laws: keys, strings and slices of them, by their cells.
-/
import Derived.Test.YtejiagmfinhjbaaDoorIh
import Derived.Test.YtejiagmfinhjbaaDoorOpen
import Derived.ProofKit
import Derived.OpenShut
namespace Go.Proofs.YtejiagmfinhjbaaDoor
open Go.ChangeShapes Go.WideShapes Go.ChangeAt Go.RowKit

theorem own : ownKnob Tryd.prog.godebug = none := by kernel_rfl
theorem laidOut : laidOutB Tryd.prog = true := by kernel_rfl
theorem key_of {H : Type} {enc : TypeId × Value → H} {W : World} {spare : Nat → Bool} {held : Bool} {cs : Array Value} {x : DataW H × List MemPlace} {fuel : Nat} (hcs : cs.size = Tryd.prog.cellsOf 23) (hf : DataW.trod enc Tryd.prog W 0 spare held fuel 23 (Value.agg cs).cells.toList = some x) :
    ∃ (k : Int) (t : ByteArray), cs = #[.int .i64 k, .string t] := by
  have hC : Tryd.prog.cellsOf 23 = 2 := by kernel_rfl
  have c3 : Tryd.prog.cellsOf 3 = 1 := by kernel_rfl
  have c9 : Tryd.prog.cellsOf 9 = 1 := by kernel_rfl
  rw [hC] at hcs
  obtain ⟨_, _, f0⟩ := OpenFields.field_of Tryd.underlying23 hf 0 3 0 1 rfl c3
  obtain ⟨_, _, f1⟩ := OpenFields.field_of Tryd.underlying23 hf 1 9 1 1 rfl c9
  obtain ⟨x0, g0, k0⟩ := OpenFields.int_of Tryd.underlying3 f0
  obtain ⟨x1, g1, k1⟩ := OpenFields.string_of Tryd.underlying9 f1
  have e0 := OpenFields.take1 g0
  have e1 := OpenFields.take1 g1
  simp [Value.cells] at e0 e1
  refine ⟨x0, x1, ?_⟩
  apply Array.ext_getElem?
  intro i
  match i with
  | 0 => simpa using e0
  | 1 => simpa using e1
  | i + 2 => simp; omega
theorem spot_none {W : World} {p : Addr} {v : Value} (h : W.cell? p = some v) : p.spot = none := World.cell?_spot h
theorem list_choose {P : Nat → ByteArray → Prop} : ∀ n, (∀ i, i < n → ∃ x, P i x) → ∃ l : List ByteArray, l.length = n ∧ ∀ i (h : i < l.length), P i l[i] := by
  intro n
  induction n with
  | zero => intro _; exact ⟨[], rfl, fun i h => absurd h (by simp)⟩
  | succ n ih =>
    intro h
    obtain ⟨l, hl, hP⟩ := ih fun i hi => h i (by omega)
    obtain ⟨x, hx⟩ := h n (by omega)
    refine ⟨l ++ [x], by simp [hl], fun i hi => ?_⟩
    by_cases hin : i < l.length
    · rw [List.getElem_append_left hin]; exact hP i hin
    · have hi2 : i = n := by simp at hi; omega
      subst hi2
      rw [List.getElem_append_right (by omega)]
      simpa [hl] using hx
/-- The strings that came in, by their cells. -/
theorem strs_of {H : Type} {enc : TypeId × Value → H} {W : World} {spare : Nat → Bool} {held : Bool} {len cap : Nat} {s : Option Addr} {x : DataW H × List MemPlace} {fuel : Nat} (hf : DataW.trod enc Tryd.prog W 0 spare held fuel 34 (Value.slice s len cap).cells.toList = some x) :
    ∃ l : List ByteArray, len = l.length ∧ Strs W s l ∧ l.length ≤ maxLen := by
  by_cases hz : len = 0
  · subst hz; exact ⟨[], rfl, ⟨fun i hi => absurd hi (by simp), fun i hi => absurd hi (by simp)⟩, by simp⟩
  have hC : Tryd.prog.cellsOf 9 = 1 := by kernel_rfl
  rcases OpenFields.rows_of Tryd.underlying34 hf with hcs | ⟨a, l, c, hcs, hl, hm, hi⟩
  · simp [Value.cells] at hcs; omega
  simp only [Value.cells, List.cons.injEq, Value.slice.injEq, and_true] at hcs
  obtain ⟨rfl, rfl, rfl⟩ := hcs
  rw [hC] at hi
  obtain ⟨ab, off, spot⟩ := a
  have hsp : spot = none := by
    obtain ⟨es, n, y, h1, h2, h3⟩ := hi 0 (by omega)
    have h4 := h2 0 (by omega)
    cases es with
    | nil => simp at h1
    | cons x r => simpa [Addr.add] using World.cell?_spot h4
  subst hsp
  obtain ⟨ls, hls, hP⟩ := list_choose (P := fun i x => W.cell? ⟨ab, off + i, none⟩ = some (.string x) ∧ x.size ≤ maxLen) len (fun i hil => by
    obtain ⟨es, n, y, h1, h2, h3⟩ := hi i hil
    obtain ⟨x0, g0, k0⟩ := OpenFields.string_of Tryd.underlying9 h3
    have h5 := h2 0 (by omega)
    rw [OpenFields.add_none, Nat.mul_one, Nat.add_zero, g0] at h5
    exact ⟨x0, h5, k0⟩)
  refine ⟨ls, hls.symm, ⟨fun i h => ⟨ab, off, rfl, OpenFields.lt_of_cell (hP i h).1, (hP i h).1⟩, fun i h => (hP i h).2⟩, by rw [hls]; exact Nat.le_trans hl hm⟩
end Go.Proofs.YtejiagmfinhjbaaDoor
