/-
  Arguments of the laws: keys, strings and slices of them, by their cells.
-/
import Derived.Test.YtejiagmfinhjbaaDoorIh
import Derived.Test.YtejiagmfinhjbaaDoorOpen
import Derived.ProofKit
import Derived.OpenShut
namespace Go.Proofs.YtejiagmfinhjbaaDoor
open Go.ChangeShapes Go.WideShapes Go.ChangeAt Go.RowKit

theorem own : ownKnob Tryd.prog.godebug = none := by kernel_rfl
theorem laidOut : laidOutB Tryd.prog = true := by kernel_rfl
theorem key_of {H : Type} {enc : TypeId × Value → H} {W : World} {spare : Nat → Bool} {held : Bool} {cs : Array Value} {x : DataW H × List MemPlace} {fuel : Nat} (hcs : cs.size = Tryd.prog.cellsOf 23) (hf : DataW.trod enc Tryd.prog W 0 spare held fuel 23 (Value.agg cs).cells.toList = some x) :
    ∃ (k : Int) (t : ByteArray), cs = #[.int .i64 k, .string t] := by
  have hC : Tryd.prog.cellsOf 23 = 2 := by kernel_rfl
  have c3 : Tryd.prog.cellsOf 3 = 1 := by kernel_rfl
  have c9 : Tryd.prog.cellsOf 9 = 1 := by kernel_rfl
  rw [hC] at hcs
  obtain ⟨_, _, f0⟩ := OpenFields.field_of Tryd.underlying23 hf 0 3 0 1 rfl c3
  obtain ⟨_, _, f1⟩ := OpenFields.field_of Tryd.underlying23 hf 1 9 1 1 rfl c9
  obtain ⟨x0, g0, k0⟩ := OpenFields.int_of Tryd.underlying3 f0
  obtain ⟨x1, g1, k1⟩ := OpenFields.string_of Tryd.underlying9 f1
  have e0 := OpenFields.take1 g0
  have e1 := OpenFields.take1 g1
  simp [Value.cells] at e0 e1
  refine ⟨x0, x1, ?_⟩
  apply Array.ext_getElem?
  intro i
  match i with
  | 0 => simpa using e0
  | 1 => simpa using e1
  | i + 2 => simp; omega
end Go.Proofs.YtejiagmfinhjbaaDoor
