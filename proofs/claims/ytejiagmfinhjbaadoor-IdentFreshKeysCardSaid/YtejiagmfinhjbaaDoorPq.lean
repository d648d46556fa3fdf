/-
  Arguments of the law of fresh keys, by their cells.
-/
import Derived.Test.YtejiagmfinhjbaaDoorIp
import Derived.Test.YtejiagmfinhjbaaDoorPk
namespace Go.Proofs.YtejiagmfinhjbaaDoor
open Go.ChangeShapes Go.WideShapes Go.ChangeAt Go.RowKit

theorem list_choose2 {P : Nat → Int × ByteArray → Prop} : ∀ n, (∀ i, i < n → ∃ x, P i x) → ∃ l : List (Int × ByteArray), l.length = n ∧ ∀ i (h : i < l.length), P i l[i] := by
  intro n
  induction n with
  | zero => intro _; exact ⟨[], rfl, fun i h => absurd h (by simp)⟩
  | succ n ih =>
    intro h
    obtain ⟨l, hl, hP⟩ := ih fun i hi => h i (by omega)
    obtain ⟨x, hx⟩ := h n (by omega)
    refine ⟨l ++ [x], by simp [hl], fun i hi => ?_⟩
    by_cases hin : i < l.length
    · rw [List.getElem_append_left hin]; exact hP i hin
    · have hi2 : i = n := by simp at hi; omega
      subst hi2
      rw [List.getElem_append_right (by omega)]
      simpa [hl] using hx
/-- The keys that came in, by their cells. -/
theorem keys_of {H : Type} {enc : TypeId × Value → H} {W : World} {spare : Nat → Bool} {held : Bool} {len cap : Nat} {s : Option Addr} {x : DataW H × List MemPlace} {fuel : Nat} (hf : DataW.trod enc Tryd.prog W 0 spare held fuel 44 (Value.slice s len cap).cells.toList = some x) :
    ∃ l : List (Int × ByteArray), len = l.length ∧ Keys W s l ∧ l.length ≤ maxLen := by
  by_cases hz : len = 0
  · subst hz; exact ⟨[], rfl, ⟨fun i hi => absurd hi (by simp), fun i hi => absurd hi (by simp)⟩, by simp⟩
  have hC : Tryd.prog.cellsOf 23 = 2 := by kernel_rfl
  have c3 : Tryd.prog.cellsOf 3 = 1 := by kernel_rfl
  have c9 : Tryd.prog.cellsOf 9 = 1 := by kernel_rfl
  rcases OpenFields.rows_of Tryd.underlying44 hf with hcs | ⟨a, l, c, hcs, hl, hm, hi⟩
  · simp [Value.cells] at hcs; omega
  simp only [Value.cells, List.cons.injEq, Value.slice.injEq, and_true] at hcs
  obtain ⟨rfl, rfl, rfl⟩ := hcs
  rw [hC] at hi
  obtain ⟨ab, off, spot⟩ := a
  have hsp : spot = none := by
    obtain ⟨es, n, y, h1, h2, h3⟩ := hi 0 (by omega)
    have h4 := h2 0 (by omega)
    cases es with
    | nil => simp at h1
    | cons x r => simpa [Addr.add] using World.cell?_spot h4
  subst hsp
  obtain ⟨ls, hls, hP⟩ := list_choose2 (P := fun i x => W.cell? ⟨ab, off + i * 2, none⟩ = some (.int .i64 x.1) ∧ W.cell? ⟨ab, off + i * 2 + 1, none⟩ = some (.string x.2) ∧ x.2.size ≤ maxLen) len (fun i hil => by
    obtain ⟨es, n, y, h1, h2, h3⟩ := hi i hil
    obtain ⟨_, _, f0⟩ := OpenFields.field_of Tryd.underlying23 h3 0 3 0 1 rfl c3
    obtain ⟨_, _, f1⟩ := OpenFields.field_of Tryd.underlying23 h3 1 9 1 1 rfl c9
    obtain ⟨x0, g0, k0⟩ := OpenFields.int_of Tryd.underlying3 f0
    obtain ⟨x1, g1, k1⟩ := OpenFields.string_of Tryd.underlying9 f1
    have e : ∀ j, j < 2 → W.cell? ⟨ab, off + i * 2 + j, none⟩ = es[j]? := fun j hj => by
      have := h2 j hj
      rw [OpenFields.add_none, ← Nat.add_assoc] at this; exact this
    exact ⟨(x0, x1), (e 0 (by omega)).trans (OpenFields.take1 g0), (e 1 (by omega)).trans (OpenFields.take1 g1), k1⟩)
  refine ⟨ls, hls.symm, ⟨fun i h => ⟨ab, off, rfl, OpenFields.lt_of_cell (hP i h).1, (hP i h).1, (hP i h).2.1⟩, fun i h => (hP i h).2.2⟩, by rw [hls]; exact Nat.le_trans hl hm⟩
end Go.Proofs.YtejiagmfinhjbaaDoor
