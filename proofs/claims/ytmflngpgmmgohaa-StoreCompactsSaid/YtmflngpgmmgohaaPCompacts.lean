/-
  For every input StoreCompacts returns true and leaves its arguments as they were (no condition).
-/
import Derived.Test.YtmflngpgmmgohaaVd
import Derived.Test.YtmflngpgmmgohaaRows
import Derived.Test.YtmflngpgmmgohaaOpen
import Derived.WalkKit
import Derived.ProofKit
import Derived.OpenShut
import Derived.ShutString
import Derived.Below
import Derived.ChangeOld
namespace Go.Proofs.Ytmflngpgmmgohaa.storeCompacts
open Go.ChangeShapes Go.WideShapes Go.ChangeAt Go.RowKit
open Go.ChangeMaps (open_string shut_string)
set_option linter.unusedVariables false

theorem own : ownKnob Try.prog.godebug = none := by kernel_rfl
theorem laidOut : laidOutB Try.prog = true := by kernel_rfl

/-- The records that came in, by their cells. -/
theorem recsRow_of {H : Type} {enc : TypeId × Value → H} {W : World} {spare : Nat → Bool} {held : Bool} {len cap : Nat} {s : Option Addr} {x : DataW H × List MemPlace} {fuel : Nat} (hf : DataW.trod enc Try.prog W 0 spare held fuel 46 (Value.slice s len cap).cells.toList = some x) :
    RecsRow W s len ∧ (0 < len → len ≤ maxLen) := by
  by_cases hz : len = 0
  · subst hz; exact ⟨fun i hi => absurd hi (by omega), fun h => absurd h (by omega)⟩
  have hC : Try.prog.cellsOf 44 = 2 := by kernel_rfl
  rcases OpenFields.rows_of Try.underlying46 hf with hcs | ⟨a, l, c, hcs, hl, hm, hi⟩
  · simp [Value.cells] at hcs; omega
  simp only [Value.cells, List.cons.injEq, Value.slice.injEq, and_true] at hcs
  obtain ⟨rfl, rfl, rfl⟩ := hcs
  rw [hC] at hi
  obtain ⟨ab, off, spot⟩ := a
  have hsp : spot = none := by
    obtain ⟨es, n, y, h1, h2, h3⟩ := hi 0 (by omega)
    have h4 := h2 0 (by omega)
    cases es with
    | nil => simp at h1
    | cons x r => simpa [Addr.add] using World.cell?_spot h4
  subst hsp
  refine ⟨fun i hil => ?_, fun _ => Nat.le_trans hl hm⟩
  obtain ⟨es, n, y, h1, h2, h3⟩ := hi i hil
  have c9 : Try.prog.cellsOf 9 = 1 := by kernel_rfl
  obtain ⟨_, _, f0⟩ := OpenFields.field_of Try.underlying44 h3 0 9 0 1 rfl c9
  obtain ⟨_, _, f1⟩ := OpenFields.field_of Try.underlying44 h3 1 9 1 1 rfl c9
  obtain ⟨x0, g0, k0⟩ := OpenFields.string_of Try.underlying9 f0
  obtain ⟨x1, g1, k1⟩ := OpenFields.string_of Try.underlying9 f1
  have e : ∀ j, j < 2 → W.cell? ⟨ab, off + i * 2 + j, none⟩ = es[j]? := fun j hj => by
    have := h2 j hj
    rw [OpenFields.add_none, ← Nat.add_assoc] at this; exact this
  have h5 := (e 0 (by omega)).trans (OpenFields.take1 g0)
  exact ⟨ab, off, x0, x1, rfl, OpenFields.lt_of_cell h5, h5, (e 1 (by omega)).trans (OpenFields.take1 g1)⟩

theorem rec_of {H : Type} {enc : TypeId × Value → H} {W : World} {spare : Nat → Bool} {held : Bool} {cs : Array Value} {x : DataW H × List MemPlace} {fuel : Nat} (hcs : cs.size = Try.prog.cellsOf 44) (hf : DataW.trod enc Try.prog W 0 spare held fuel 44 (Value.agg cs).cells.toList = some x) :
    ∃ k d : ByteArray, cs = #[.string k, .string d] := by
  have hC : Try.prog.cellsOf 44 = 2 := by kernel_rfl
  have c9 : Try.prog.cellsOf 9 = 1 := by kernel_rfl
  rw [hC] at hcs
  obtain ⟨_, _, f0⟩ := OpenFields.field_of Try.underlying44 hf 0 9 0 1 rfl c9
  obtain ⟨_, _, f1⟩ := OpenFields.field_of Try.underlying44 hf 1 9 1 1 rfl c9
  obtain ⟨x0, g0, k0⟩ := OpenFields.string_of Try.underlying9 f0
  obtain ⟨x1, g1, k1⟩ := OpenFields.string_of Try.underlying9 f1
  have e0 := OpenFields.take1 g0
  have e1 := OpenFields.take1 g1
  simp [Value.cells] at e0 e1
  refine ⟨x0, x1, ?_⟩
  apply Array.ext_getElem?
  intro i
  match i with
  | 0 => simpa using e0
  | 1 => simpa using e1
  | i + 2 => simp; omega

set_option maxRecDepth 100000 in
theorem contract (H : Type) (enc : TypeId × Value → H) (W : World) (base : Nat) (args : Array Value) (ds gs : List (DataW H)) (before : List MemPlace)
    (hval0 : ∀ (j : Nat) t v, Try.f9.params[j]? = some t → args[j]? = some v → Value.okWide Try.prog W .any base t v)
    (hW : DataW.Whole enc Try.prog Try.f9.params.toList Rows.storeCompactsSpec.vars false W args.toList ds gs before) :
    Calls Try.prog 9 args W fun e W' => ∃ v, e = .returned v ∧ Rows.storeCompactsSpec.post enc Try.prog Try.f9 false true false false W args v W' := by
  have hval : ∀ (j : Nat) t v, Try.f9.params[j]? = some t → args[j]? = some v → Value.okWide Try.prog W .any base t v := hval0
  have hW' := hW
  obtain ⟨p, q, hA0, hV, rfl, hfz, hnd⟩ := hW
  have hA : DataW.TrodAll enc Try.prog W 0 (fun _ => true) true Try.f9.params.toList args.toList ds p := hA0
  rw [Try.params9] at hA hval
  obtain ⟨v0, vs0, d0, ds0, p0, q0, hargs, rfl, rfl, h0, r0⟩ := trodAll_cons hA
  obtain ⟨rfl, rfl, rfl⟩ := trodAll_nil r0
  obtain rfl : args = #[v0] := by cases args; simp_all
  obtain ⟨rfl, rfl⟩ := trodVars_none hV
  clear hA0 hval0
  have k0 := h0
  have lt0 : ∀ x ∈ p0, x.block < W.heap.size := by obtain ⟨m, hm⟩ := k0; exact DataW.trod_lt m _ _ _ hm
  obtain ⟨s0, len0, cap0, rfl⟩ := okWide_slice Try.underlying46 (hval 0 46 v0 rfl rfl)
  obtain ⟨fuel0, hf0⟩ := h0
  obtain ⟨row0, ml0⟩ := recsRow_of hf0
  have hl0 : len0 ≤ 9223372036854775807 := by
    rcases Nat.eq_zero_or_pos len0 with h | h
    · omega
    · have := ml0 h; unfold maxLen at this; omega
  refine (compacts_walk s0 len0 cap0 W row0 hl0).mono fun e W' ⟨he, bel⟩ => ?_
  subst he
  exact ⟨_, rfl, _, _, _, [], _, [], hW', trodAll_mk1 (shut_bool Try.underlying4 _), (trodAll_cons_mk (Below.trod laidOut (by kernel_rfl) (of_decide_eq_true (by kernel_rfl)) k0 bel lt0) trodAll_mk0), rfl, bel.frame _, fun h => by cases h⟩

set_option maxRecDepth 100000 in
theorem lifted (os : Os) (started : os.Started) (H : Type) (enc : TypeId × Value → H) :
    ReturnsInHanded {} Try.checked os 9 .any (Rows.storeCompactsSpec.pre6 enc Try.prog Try.f9 Rows.storeCompactsRow.domain false) (Rows.storeCompactsSpec.post enc Try.prog Try.f9 false true false false) := by
  refine returnsInHanded_of_change (C := Try.checked) own started (by kernel_rfl) Try.func9
    (ChangeSpec.witness6 (enc := enc) (C := Try.checked) false ⟨#[], #[.slice none 0 0], []⟩ 8 (by kernel_rfl) (by kernel_rfl) (by kernel_rfl) (by kernel_rfl)) ?_
  intro W base args ds gs before hval hW _ _
  exact contract H enc W base args ds gs before hval hW

theorem storeCompacts_holds : Rows.StoreCompactsSaid :=
  OpenClaim.holds_of_wide 9 Try.f9 rfl rfl rfl rfl rfl rfl rfl ⟨rfl, rfl, rfl, rfl, rfl⟩ rfl rfl rfl rfl rfl (by kernel_rfl) Try.func9 (by kernel_rfl)
    (of_decide_eq_true (by kernel_rfl)) (by unfold Func.isWrapper; first | (rw [if_pos (by decide +kernel)]; kernel_rfl) | (rw [if_neg (by decide +kernel)]; exact ⟨rfl, rfl⟩))
    (fun os started H enc _ => lifted os started H enc)
end Go.Proofs.Ytmflngpgmmgohaa.storeCompacts
