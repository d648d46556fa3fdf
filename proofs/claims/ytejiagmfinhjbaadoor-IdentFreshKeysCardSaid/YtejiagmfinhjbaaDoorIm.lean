/-
  Walks: the reference's ParseKey; the law of keys.
-/
import Derived.Test.YtejiagmfinhjbaaDoorIr
namespace Go.Proofs.YtejiagmfinhjbaaDoor
open Go.RowKit Go.Ident

/-- What the reference's ParseKey returns. -/
def parB (s : ByteArray) : Ending := match parK s.data.toList with
  | some (k, t) => .returned (.tuple #[.agg #[.int .i64 k, .string ⟨t.toArray⟩], .bool true])
  | none => .returned (.tuple #[.agg #[.int .i64 0, .string ⟨#[]⟩], .bool false])
theorem parB_some {s : ByteArray} {k : Int} {t : List UInt8} (h : parK s.data.toList = some (k, t)) : parB s = .returned (.tuple #[.agg #[.int .i64 k, .string ⟨t.toArray⟩], .bool true]) := by unfold parB; rw [h]
theorem parB_none {s : ByteArray} (h : parK s.data.toList = none) : parB s = .returned (.tuple #[.agg #[.int .i64 0, .string ⟨#[]⟩], .bool false]) := by unfold parB; rw [h]
theorem parR_some {s : ByteArray} {k : Int} {t : List UInt8} (h : parK s.data.toList = some (k, t)) : parR s = .returned (.tuple #[.agg #[.int .i64 k, .string ⟨t.toArray⟩], .int .i64 0]) := by unfold parR; rw [h]
theorem parR_none {s : ByteArray} (h : parK s.data.toList = none) : parR s = .returned (.tuple #[.agg #[.int .i64 0, .string ⟨#[]⟩], .int .i64 5]) := by unfold parR; rw [h]
/-- The block of the result. -/
structure One (w : World) (k : Int) (t : ByteArray) (wr : World) : Prop where
  blk : wr.heap[w.heap.size]? = some (.cells #[.int .i64 k, .string t] 23)
  below : Below w.heap.size w wr
theorem One.start (w : World) (k : Int) (t : ByteArray) : One w k t (w.alloc (.cells #[.int .i64 k, .string t] 23)) := ⟨heap_alloc_new _ _, (Below.refl _ _).alloc (Nat.le_refl _) _⟩
theorem One.step {w wr w2 : World} {k : Int} {t : ByteArray} (h : One w k t wr) (hb : Below wr.heap.size wr w2) : One w k t w2 := ⟨(hb.block _ (Lib.lt_of_heap h.blk)).trans h.blk, h.below.trans (hb.mono h.below.size)⟩

set_option maxRecDepth 100000 in
set_option maxHeartbeats 8000000 in
theorem refParseKey_any (s : ByteArray) (hs : s.size ≤ 1000000) (w : World) : Calls Tryd.prog 25 #[.string s] w fun e w' => e = parB s ∧ Below w.heap.size w w' := by
  have hA := refIsAtom_any s
  have hU := refUnquote_any s hs
  have hT := One.start w 0 ⟨#[]⟩
  have T := Lib.hid hT; clear hT
  have hpk := parK_ref s.data.toList
  cases ha : isAtm s.data.toList with
  | true =>
    rw [ha] at hA
    rw [ha, if_pos rfl] at hpk
    rw [show parB s = .returned (.tuple #[.agg #[.int .i64 0, .string s], .bool true]) from parB_some hpk]
    clear hpk ha
    go_enter Tryd.func25, Tryd.ntmps25
    go_upto_region 1 with fail
    generalize w.alloc (Obj.cells #[Value.int IntKind.i64 0, Value.string { data := #[] }] 23) = w1 at *
    go_wp2_with (first
      | ((with_reducible refine at_store ?_); refine wpList_store_row rfl 23 (.tmp 2) (.tmp 9) rfl _ _ rfl rfl _ _ T2.out.blk (by kernel_rfl) (by kernel_rfl) (by kernel_rfl) ?_)
      | (go_at_call 11; refine (hA _).mono ?_; rintro e w2 ⟨rfl, rfl⟩; have T2 := T))
    exact bodyPost_ret (results_cell_one rfl _ _ w.heap.size 23 _ (0, 0) _ rfl (setRow_heap _ _ _ _ _ _ T2.out.blk) rfl rfl (by kernel_rfl)) rfl ⟨rfl, below_setRow T2.out.below (Nat.le_refl _) _⟩
  | false =>
    rw [ha] at hA
    rw [ha, if_neg (by decide)] at hpk
    cases hq : unq s.data.toList with
    | none =>
      rw [unqB_none hq] at hU
      rw [hq] at hpk
      rw [parB_none hpk]
      clear hpk ha hq
      go_enter Tryd.func25, Tryd.ntmps25
      go_upto_region 1 with fail
      generalize w.alloc (Obj.cells #[Value.int IntKind.i64 0, Value.string { data := #[] }] 23) = w1 at *
      go_wp2_with (first
        | ((with_reducible refine at_store ?_); refine wpList_store_row rfl 23 (.tmp 2) (.tmp 22) rfl _ _ rfl rfl _ _ T2.out.blk (by kernel_rfl) (by kernel_rfl) (by kernel_rfl) ?_)
        | (go_at_call 20; refine (hU _).mono ?_; rintro e w2 ⟨rfl, hb2⟩; have T2 := Lib.hid (T.out.step hb2))
        | (go_at_call 11; refine (hA _).mono ?_; rintro e w2 ⟨rfl, rfl⟩))
      exact bodyPost_ret (results_cell_one rfl _ _ w.heap.size 23 _ (0, 0) _ rfl (setRow_heap _ _ _ _ _ _ T2.out.blk) rfl rfl (by kernel_rfl)) rfl ⟨rfl, below_setRow T2.out.below (Nat.le_refl _) _⟩
    | some t =>
      rw [unqB_some hq] at hU
      rw [hq] at hpk
      have hsz : ((⟨t.toArray⟩ : ByteArray).size : Int) = (t.length : Int) := by show (t.toArray.size : Int) = _; simp
      by_cases hl : t.length ≤ 64
      · simp only [if_pos hl] at hpk
        rw [parB_some hpk]
        have d1 : decide (((⟨t.toArray⟩ : ByteArray).size : Int) > 64) = false := by rw [hsz]; simp; omega
        clear hpk ha hq hsz hl
        generalize (⟨t.toArray⟩ : ByteArray) = tb at *
        go_enter Tryd.func25, Tryd.ntmps25
        go_upto_region 1 with fail
        generalize w.alloc (Obj.cells #[Value.int IntKind.i64 0, Value.string { data := #[] }] 23) = w1 at *
        go_wp2_with (first
          | ((with_reducible refine at_store ?_); refine wpList_store_row rfl 23 (.tmp 2) (.tmp 24) rfl _ _ rfl rfl _ _ T2.out.blk (by kernel_rfl) (by kernel_rfl) (by kernel_rfl) ?_)
          | (go_at_call 20; refine (hU _).mono ?_; rintro e w2 ⟨rfl, hb2⟩; have T2 := Lib.hid (T.out.step hb2))
          | (go_at_call 11; refine (hA _).mono ?_; rintro e w2 ⟨rfl, rfl⟩))
        exact bodyPost_ret (results_cell_one rfl _ _ w.heap.size 23 _ (0, 0) _ rfl (setRow_heap _ _ _ _ _ _ T2.out.blk) rfl rfl (by kernel_rfl)) rfl ⟨rfl, below_setRow T2.out.below (Nat.le_refl _) _⟩
      · simp only [if_neg hl] at hpk
        rw [parB_none hpk]
        have d1 : decide (((⟨t.toArray⟩ : ByteArray).size : Int) > 64) = true := by rw [hsz]; simp; omega
        clear hpk ha hq hsz hl
        generalize (⟨t.toArray⟩ : ByteArray) = tb at *
        go_enter Tryd.func25, Tryd.ntmps25
        go_upto_region 1 with fail
        generalize w.alloc (Obj.cells #[Value.int IntKind.i64 0, Value.string { data := #[] }] 23) = w1 at *
        go_wp2_with (first
          | ((with_reducible refine at_store ?_); refine wpList_store_row rfl 23 (.tmp 2) (.tmp 22) rfl _ _ rfl rfl _ _ T2.out.blk (by kernel_rfl) (by kernel_rfl) (by kernel_rfl) ?_)
          | (go_at_call 20; refine (hU _).mono ?_; rintro e w2 ⟨rfl, hb2⟩; have T2 := Lib.hid (T.out.step hb2))
          | (go_at_call 11; refine (hA _).mono ?_; rintro e w2 ⟨rfl, rfl⟩))
        exact bodyPost_ret (results_cell_one rfl _ _ w.heap.size 23 _ (0, 0) _ rfl (setRow_heap _ _ _ _ _ _ T2.out.blk) rfl rfl (by kernel_rfl)) rfl ⟨rfl, below_setRow T2.out.below (Nat.le_refl _) _⟩
end Go.Proofs.YtejiagmfinhjbaaDoor
