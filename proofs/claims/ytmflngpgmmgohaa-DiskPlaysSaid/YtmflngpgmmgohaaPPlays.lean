/-
  For every input DiskPlays returns true and leaves its arguments as they were (no condition).
-/
import Derived.Test.YtmflngpgmmgohaaPlaysB
import Derived.Test.YtmflngpgmmgohaaOpen
import Derived.WalkKit
import Derived.ProofKit
import Derived.OpenShut
import Derived.ShutString
import Derived.Below
import Derived.ChangeOld
namespace Go.Proofs.Ytmflngpgmmgohaa.diskPlays
open Go.ChangeShapes Go.WideShapes Go.ChangeAt Go.RowKit
open Go.ChangeMaps (open_string shut_string)
set_option linter.unusedVariables false

theorem own : ownKnob Try.prog.godebug = none := by kernel_rfl
theorem laidOut : laidOutB Try.prog = true := by kernel_rfl

set_option maxRecDepth 100000 in
theorem contract (H : Type) (enc : TypeId × Value → H) (W : World) (base : Nat) (args : Array Value) (ds gs : List (DataW H)) (before : List MemPlace)
    (hval0 : ∀ (j : Nat) t v, Try.f4.params[j]? = some t → args[j]? = some v → Value.okWide Try.prog W .any base t v)
    (hW : DataW.Whole enc Try.prog Try.f4.params.toList Rows.diskPlaysSpec.vars false W args.toList ds gs before) :
    Calls Try.prog 4 args W fun e W' => ∃ v, e = .returned v ∧ Rows.diskPlaysSpec.post enc Try.prog Try.f4 false true false false W args v W' := by
  have hval : ∀ (j : Nat) t v, Try.f4.params[j]? = some t → args[j]? = some v → Value.okWide Try.prog W .any base t v := hval0
  have hW' := hW
  obtain ⟨p, q, hA0, hV, rfl, hfz, hnd⟩ := hW
  have hA : DataW.TrodAll enc Try.prog W 0 (fun _ => true) true Try.f4.params.toList args.toList ds p := hA0
  rw [Try.params4] at hA hval
  obtain ⟨v0, vs0, d0, ds0, p0, q0, hargs, rfl, rfl, h0, r0⟩ := trodAll_cons hA
  obtain ⟨v1, vs1, d1, ds1, p1, q1, rfl, rfl, rfl, h1, r1⟩ := trodAll_cons r0
  obtain ⟨rfl, rfl, rfl⟩ := trodAll_nil r1
  obtain rfl : args = #[v0, v1] := by cases args; simp_all
  obtain ⟨rfl, rfl⟩ := trodVars_none hV
  clear hA0 hval0
  have k0 := h0
  have lt0 : ∀ x ∈ p0, x.block < W.heap.size := by obtain ⟨m, hm⟩ := k0; exact DataW.trod_lt m _ _ _ hm
  have k1 := h1
  have lt1 : ∀ x ∈ p1, x.block < W.heap.size := by obtain ⟨m, hm⟩ := k1; exact DataW.trod_lt m _ _ _ hm
  obtain ⟨a0, rfl, rfl, rfl, w0⟩ := open_int Try.underlying3 (hval 0 3 v0 rfl rfl) h0
  obtain ⟨s1, len1, cap1, rfl⟩ := okWide_slice Try.underlying31 (hval 1 31 v1 rfl rfl)
  have key : Calls Try.prog 4 #[.int .i64 a0, .slice s1 len1 cap1] W fun e W' => e = .returned (.bool true) ∧ Below W.heap.size W W' := by
    by_cases hz : len1 = 0
    · subst hz; exact plays_nil _ _ _ _
    obtain ⟨fuel, hf⟩ := h1
    have hC : Try.prog.cellsOf 35 = 4 := by kernel_rfl
    rcases OpenFields.rows_of Try.underlying31 hf with hcs | ⟨a, l, c, hcs, hl, hm, hi⟩
    · simp [Value.cells] at hcs; omega
    simp only [Value.cells, List.cons.injEq, Value.slice.injEq, and_true] at hcs
    obtain ⟨rfl, rfl, rfl⟩ := hcs
    rw [hC] at hi
    obtain ⟨ab, off, spot⟩ := a
    have hsp : spot = none := by
      obtain ⟨es, n, y, h1, h2, h3⟩ := hi 0 (by omega)
      have h4 := h2 0 (by omega)
      cases es with
      | nil => simp at h1
      | cons x r => simpa [Addr.add] using World.cell?_spot h4
    subst hsp
    refine plays_walk a0 ab off len1 cap1 W (by unfold maxLen at hm; omega) (fun i hil => ?_) (fun hp => ?_)
    · obtain ⟨es, n, y, h1, h2, h3⟩ := hi i hil
      have c3 : Try.prog.cellsOf 3 = 1 := by kernel_rfl
      have c9 : Try.prog.cellsOf 9 = 1 := by kernel_rfl
      obtain ⟨_, _, f0⟩ := OpenFields.field_of Try.underlying35 h3 0 3 0 1 rfl c3
      obtain ⟨_, _, f1⟩ := OpenFields.field_of Try.underlying35 h3 1 3 1 1 rfl c3
      obtain ⟨_, _, f2⟩ := OpenFields.field_of Try.underlying35 h3 2 3 2 1 rfl c3
      obtain ⟨_, _, f3⟩ := OpenFields.field_of Try.underlying35 h3 3 9 3 1 rfl c9
      obtain ⟨x0, g0, _⟩ := OpenFields.int_of Try.underlying3 f0
      obtain ⟨x1, g1, k1⟩ := OpenFields.int_of Try.underlying3 f1
      obtain ⟨x2, g2, k2⟩ := OpenFields.int_of Try.underlying3 f2
      obtain ⟨x3, g3, k3⟩ := OpenFields.string_of Try.underlying9 f3
      have e : ∀ j, j < 4 → W.cell? ⟨ab, off + i * 4 + j, none⟩ = es[j]? := fun j hj => by
        have := h2 j hj
        rw [OpenFields.add_none, ← Nat.add_assoc] at this; exact this
      refine ⟨x0, x1, x2, x3, (e 0 (by omega)).trans (OpenFields.take1 g0), (e 1 (by omega)).trans (OpenFields.take1 g1), (e 2 (by omega)).trans (OpenFields.take1 g2), (e 3 (by omega)).trans (OpenFields.take1 g3), k1, k2, ?_⟩
      unfold maxLen at k3; omega
    · obtain ⟨es, n, y, h1, h2, h3⟩ := hi 0 hp
      have h4 := h2 0 (by omega)
      cases es with
      | nil => simp at h1
      | cons x r =>
        have h5 : W.cell? ⟨ab, off, none⟩ = some x := by simpa [Addr.add] using h4
        exact OpenFields.lt_of_cell h5
  refine (key).mono fun e W' ⟨he, bel⟩ => ?_
  subst he
  exact ⟨_, rfl, _, _, _, [], _, [], hW', trodAll_mk1 (shut_bool Try.underlying4 _), (trodAll_cons_mk (Below.trod laidOut (by kernel_rfl) (of_decide_eq_true (by kernel_rfl)) k0 bel lt0) (trodAll_cons_mk (Below.trod laidOut (by kernel_rfl) (of_decide_eq_true (by kernel_rfl)) k1 bel lt1) trodAll_mk0)), rfl, bel.frame _, fun h => by cases h⟩

set_option maxRecDepth 100000 in
theorem lifted (os : Os) (started : os.Started) (H : Type) (enc : TypeId × Value → H) :
    ReturnsInHanded {} Try.checked os 4 .any (Rows.diskPlaysSpec.pre6 enc Try.prog Try.f4 Rows.diskPlaysRow.domain false) (Rows.diskPlaysSpec.post enc Try.prog Try.f4 false true false false) := by
  refine returnsInHanded_of_change (C := Try.checked) own started (by kernel_rfl) Try.func4
    (ChangeSpec.witness6 (enc := enc) (C := Try.checked) false ⟨#[], #[.int .i64 0, .slice none 0 0], []⟩ 8 (by kernel_rfl) (by kernel_rfl) (by kernel_rfl) (by kernel_rfl)) ?_
  intro W base args ds gs before hval hW _ _
  exact contract H enc W base args ds gs before hval hW

theorem diskPlays_holds : Rows.DiskPlaysSaid :=
  OpenClaim.holds_of_wide 4 Try.f4 rfl rfl rfl rfl rfl rfl rfl ⟨rfl, rfl, rfl, rfl, rfl⟩ rfl rfl rfl rfl rfl (by kernel_rfl) Try.func4 (by kernel_rfl)
    (of_decide_eq_true (by kernel_rfl)) (by unfold Func.isWrapper; first | (rw [if_pos (by decide +kernel)]; kernel_rfl) | (rw [if_neg (by decide +kernel)]; exact ⟨rfl, rfl⟩))
    (fun os started H enc _ => lifted os started H enc)
end Go.Proofs.Ytmflngpgmmgohaa.diskPlays
