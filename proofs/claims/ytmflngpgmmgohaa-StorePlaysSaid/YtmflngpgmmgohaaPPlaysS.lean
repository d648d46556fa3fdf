/-
  For every input StorePlays returns true and leaves its arguments as they were (no condition).
-/
import Derived.Test.YtmflngpgmmgohaaWi
import Derived.Test.YtmflngpgmmgohaaRows
import Derived.Test.YtmflngpgmmgohaaOpen
import Derived.WalkKit
import Derived.ProofKit
import Derived.OpenShut
import Derived.ShutString
import Derived.Below
import Derived.ChangeOld
namespace Go.Proofs.Ytmflngpgmmgohaa.storePlays
open Go.ChangeShapes Go.WideShapes Go.ChangeAt Go.RowKit
open Go.ChangeMaps (open_string shut_string)
set_option linter.unusedVariables false

theorem own : ownKnob Try.prog.godebug = none := by kernel_rfl
theorem laidOut : laidOutB Try.prog = true := by kernel_rfl

/-- The acts that came in, by their cells. -/
theorem playRow_of {H : Type} {enc : TypeId × Value → H} {W : World} {spare : Nat → Bool} {held : Bool} {len cap : Nat} {s : Option Addr} {x : DataW H × List MemPlace} {fuel : Nat} (hf : DataW.trod enc Try.prog W 0 spare held fuel 66 (Value.slice s len cap).cells.toList = some x) :
    PlayRow W s len ∧ (0 < len → len ≤ maxLen) := by
  by_cases hz : len = 0
  · subst hz; exact ⟨fun i hi => absurd hi (by omega), fun h => absurd h (by omega)⟩
  have hC : Try.prog.cellsOf 71 = 5 := by kernel_rfl
  rcases OpenFields.rows_of Try.underlying66 hf with hcs | ⟨a, l, c, hcs, hl, hm, hi⟩
  · simp [Value.cells] at hcs; omega
  simp only [Value.cells, List.cons.injEq, Value.slice.injEq, and_true] at hcs
  obtain ⟨rfl, rfl, rfl⟩ := hcs
  rw [hC] at hi
  obtain ⟨ab, off, spot⟩ := a
  have hsp : spot = none := by
    obtain ⟨es, n, y, h1, h2, h3⟩ := hi 0 (by omega)
    have h4 := h2 0 (by omega)
    cases es with
    | nil => simp at h1
    | cons x r => simpa [Addr.add] using World.cell?_spot h4
  subst hsp
  refine ⟨fun i hil => ?_, fun _ => Nat.le_trans hl hm⟩
  obtain ⟨es, n, y, h1, h2, h3⟩ := hi i hil
  have c3 : Try.prog.cellsOf 3 = 1 := by kernel_rfl
  have c9 : Try.prog.cellsOf 9 = 1 := by kernel_rfl
  have c44 : Try.prog.cellsOf 44 = 2 := by kernel_rfl
  obtain ⟨_, _, f0⟩ := OpenFields.field_of Try.underlying71 h3 0 3 0 1 rfl c3
  obtain ⟨_, _, f1⟩ := OpenFields.field_of Try.underlying71 h3 1 3 1 1 rfl c3
  obtain ⟨_, _, f2⟩ := OpenFields.field_of Try.underlying71 h3 2 3 2 1 rfl c3
  obtain ⟨_, _, f3⟩ := OpenFields.field_of Try.underlying71 h3 3 44 3 2 rfl c44
  obtain ⟨_, _, f4⟩ := OpenFields.field_of Try.underlying44 f3 0 9 0 1 rfl c9
  obtain ⟨_, _, f5⟩ := OpenFields.field_of Try.underlying44 f3 1 9 1 1 rfl c9
  obtain ⟨x0, g0, _⟩ := OpenFields.int_of Try.underlying3 f0
  obtain ⟨x1, g1, _⟩ := OpenFields.int_of Try.underlying3 f1
  obtain ⟨x2, g2, _⟩ := OpenFields.int_of Try.underlying3 f2
  obtain ⟨x3, g3, _⟩ := OpenFields.string_of Try.underlying9 f4
  obtain ⟨x4, g4, _⟩ := OpenFields.string_of Try.underlying9 f5
  have e : ∀ j, j < 5 → W.cell? ⟨ab, off + i * 5 + j, none⟩ = es[j]? := fun j hj => by
    have := h2 j hj
    rw [OpenFields.add_none, ← Nat.add_assoc] at this; exact this
  have e3 : es[3]? = some (.string x3) := by simpa using OpenFields.take1 g3
  have e4 : es[4]? = some (.string x4) := by simpa using OpenFields.take1 g4
  have h5 := (e 0 (by omega)).trans (OpenFields.take1 g0)
  exact ⟨ab, off, x0, x1, x2, x3, x4, rfl, OpenFields.lt_of_cell h5, h5, (e 1 (by omega)).trans (OpenFields.take1 g1), (e 2 (by omega)).trans (OpenFields.take1 g2), (e 3 (by omega)).trans e3, (e 4 (by omega)).trans e4⟩

set_option maxRecDepth 100000 in
theorem contract (H : Type) (enc : TypeId × Value → H) (W : World) (base : Nat) (args : Array Value) (ds gs : List (DataW H)) (before : List MemPlace)
    (hval0 : ∀ (j : Nat) t v, Try.f10.params[j]? = some t → args[j]? = some v → Value.okWide Try.prog W .any base t v)
    (hW : DataW.Whole enc Try.prog Try.f10.params.toList Rows.storePlaysSpec.vars false W args.toList ds gs before) :
    Calls Try.prog 10 args W fun e W' => ∃ v, e = .returned v ∧ Rows.storePlaysSpec.post enc Try.prog Try.f10 false true false false W args v W' := by
  have hval : ∀ (j : Nat) t v, Try.f10.params[j]? = some t → args[j]? = some v → Value.okWide Try.prog W .any base t v := hval0
  have hW' := hW
  obtain ⟨p, q, hA0, hV, rfl, hfz, hnd⟩ := hW
  have hA : DataW.TrodAll enc Try.prog W 0 (fun _ => true) true Try.f10.params.toList args.toList ds p := hA0
  rw [Try.params10] at hA hval
  obtain ⟨v0, vs0, d0, ds0, p0, q0, hargs, rfl, rfl, h0, r0⟩ := trodAll_cons hA
  obtain ⟨v1, vs1, d1, ds1, p1, q1, rfl, rfl, rfl, h1, r1⟩ := trodAll_cons r0
  obtain ⟨v2, vs2, d2, ds2, p2, q2, rfl, rfl, rfl, h2, r2⟩ := trodAll_cons r1
  obtain ⟨rfl, rfl, rfl⟩ := trodAll_nil r2
  obtain rfl : args = #[v0, v1, v2] := by cases args; simp_all
  obtain ⟨rfl, rfl⟩ := trodVars_none hV
  clear hA0 hval0
  have k0 := h0
  have lt0 : ∀ x ∈ p0, x.block < W.heap.size := by obtain ⟨m, hm⟩ := k0; exact DataW.trod_lt m _ _ _ hm
  have k1 := h1
  have lt1 : ∀ x ∈ p1, x.block < W.heap.size := by obtain ⟨m, hm⟩ := k1; exact DataW.trod_lt m _ _ _ hm
  have k2 := h2
  have lt2 : ∀ x ∈ p2, x.block < W.heap.size := by obtain ⟨m, hm⟩ := k2; exact DataW.trod_lt m _ _ _ hm
  obtain ⟨a0, rfl, rfl, rfl, w0⟩ := open_string Try.underlying9 (hval 0 9 v0 rfl rfl) h0
  obtain ⟨a1, rfl, rfl, rfl, w1⟩ := open_int Try.underlying3 (hval 1 3 v1 rfl rfl) h1
  obtain ⟨s2, len2, cap2, rfl⟩ := okWide_slice Try.underlying66 (hval 2 66 v2 rfl rfl)
  obtain ⟨fuel2, hf2⟩ := h2
  obtain ⟨row2, ml2⟩ := playRow_of hf2
  have hl2 : len2 ≤ 9223372036854775807 := by
    rcases Nat.eq_zero_or_pos len2 with h | h
    · omega
    · have := ml2 h; unfold maxLen at this; omega
  refine (plays38_walk a0 a1 s2 len2 cap2 W (by unfold maxLen at w0; omega) row2 hl2).mono fun e W' ⟨he, bel⟩ => ?_
  subst he
  exact ⟨_, rfl, _, _, _, [], _, [], hW', trodAll_mk1 (shut_bool Try.underlying4 _), (trodAll_cons_mk (Below.trod laidOut (by kernel_rfl) (of_decide_eq_true (by kernel_rfl)) k0 bel lt0) (trodAll_cons_mk (Below.trod laidOut (by kernel_rfl) (of_decide_eq_true (by kernel_rfl)) k1 bel lt1) (trodAll_cons_mk (Below.trod laidOut (by kernel_rfl) (of_decide_eq_true (by kernel_rfl)) k2 bel lt2) trodAll_mk0))), rfl, bel.frame _, fun h => by cases h⟩

set_option maxRecDepth 100000 in
theorem lifted (os : Os) (started : os.Started) (H : Type) (enc : TypeId × Value → H) :
    ReturnsInHanded {} Try.checked os 10 .any (Rows.storePlaysSpec.pre6 enc Try.prog Try.f10 Rows.storePlaysRow.domain false) (Rows.storePlaysSpec.post enc Try.prog Try.f10 false true false false) := by
  refine returnsInHanded_of_change (C := Try.checked) own started (by kernel_rfl) Try.func10
    (ChangeSpec.witness6 (enc := enc) (C := Try.checked) false ⟨#[], #[.string ByteArray.empty, .int .i64 0, .slice none 0 0], []⟩ 8 (by kernel_rfl) (by kernel_rfl) (by kernel_rfl) (by kernel_rfl)) ?_
  intro W base args ds gs before hval hW _ _
  exact contract H enc W base args ds gs before hval hW

theorem storePlays_holds : Rows.StorePlaysSaid :=
  OpenClaim.holds_of_wide 10 Try.f10 rfl rfl rfl rfl rfl rfl rfl ⟨rfl, rfl, rfl, rfl, rfl⟩ rfl rfl rfl rfl rfl (by kernel_rfl) Try.func10 (by kernel_rfl)
    (of_decide_eq_true (by kernel_rfl)) (by unfold Func.isWrapper; first | (rw [if_pos (by decide +kernel)]; kernel_rfl) | (rw [if_neg (by decide +kernel)]; exact ⟨rfl, rfl⟩))
    (fun os started H enc _ => lifted os started H enc)
end Go.Proofs.Ytmflngpgmmgohaa.storePlays
