/-
  Keys compared with '=='.
-/
import Derived.Test.YtejiagmfinhjbaaDoorIm
import Derived.Laws.StructEq
namespace Go.Proofs.YtejiagmfinhjbaaDoor
open Go.RowKit Go.Ident

theorem part0 (k : Int) (t : ByteArray) (w : World) : (part 3 #[Value.int .i64 k, .string t] 0).run Tryd.prog w = .ok (.int .i64 k) w := by kernel_rfl
theorem part1 (k : Int) (t : ByteArray) (w : World) : (part 9 #[Value.int .i64 k, .string t] 1).run Tryd.prog w = .ok (.string t) w := by kernel_rfl
theorem run_eql_key (w : World) (k k2 : Int) (t t2 : ByteArray) : (binOp .eql 23 (.agg #[.int .i64 k, .string t]) (.agg #[.int .i64 k2, .string t2])).run Tryd.prog w = .ok (.bool (k == k2 && t.toList == t2.toList)) w := by
  rw [run_eql_struct, run_equalIn_agg w 9999 23 _ _ (by kernel_rfl) (by kernel_rfl)]
  simp only [Program.fieldsOf, Tryd.underlying23]
  simp only [Op.eqFields]
  rw [if_pos (by decide), if_pos (by decide)]
  simp only [Sem.run_bind, part0, part1, Result.andThen_ok, run_equalIn_int w 9998 3 .i64 .i64 k k2 Tryd.underlying3]
  cases h : k == k2 with
  | false => simp
  | true =>
    simp only [Bool.not_true, Bool.false_eq_true, if_false, Sem.run_bind, part1, Result.andThen_ok, run_equalIn_string w 9998 9 t t2 Tryd.underlying9]
    cases h2 : t.toList == t2.toList <;> simp
theorem run_eql_key_same (w : World) (k : Int) (t : ByteArray) : (binOp .eql 23 (.agg #[.int .i64 k, .string t]) (.agg #[.int .i64 k, .string t])).run Tryd.prog w = .ok (.bool true) w := by
  rw [run_eql_key]; simp

/-- A block that holds a key. -/
def Blk (b : Nat) (k : Int) (t : ByteArray) (w : World) : Prop := w.heap[b]? = some (.cells #[.int .i64 k, .string t] 23)
theorem Blk.new (w : World) (k : Int) (t : ByteArray) : Blk w.heap.size k t (w.alloc (.cells #[.int .i64 k, .string t] 23)) := heap_alloc_new _ _
theorem Blk.lt {b : Nat} {k : Int} {t : ByteArray} {w : World} (h : Blk b k t w) : b < w.heap.size := Lib.lt_of_heap h
theorem Blk.below {b : Nat} {k : Int} {t : ByteArray} {w w2 : World} (h : Blk b k t w) (hb : Below w.heap.size w w2) : Blk b k t w2 := (hb.block _ h.lt).trans h
theorem Blk.alloc {b : Nat} {k : Int} {t : ByteArray} {w : World} (h : Blk b k t w) (o : Obj) : Blk b k t (w.alloc o) := (heap_alloc_old _ _ h.lt).trans h
theorem Blk.cell0 {b : Nat} {k : Int} {t : ByteArray} {w : World} (h : Blk b k t w) : w.cell? ⟨b, 0, none⟩ = some (.int .i64 k) := cell_of_row _ _ _ _ _ _ h
theorem Blk.cell1 {b : Nat} {k : Int} {t : ByteArray} {w : World} (h : Blk b k t w) : w.cell? ⟨b, 1, none⟩ = some (.string t) := cell_of_row _ _ _ _ _ _ h

set_option maxRecDepth 100000 in
set_option maxHeartbeats 8000000 in
theorem keys_walk (k : Int) (t s : ByteArray) (w : World) : Calls Tryd.prog 7 #[.agg #[.int .i64 k, .string t], .string s] w fun e w' => e = .returned (.bool true) ∧ Below w.heap.size w w' := by
  have hT := One.start w k t
  have T := Lib.hid hT; clear hT
  have x0 : (w.alloc (.cells #[.int .i64 k, .string t] 23)).cell? ⟨w.heap.size, 0, none⟩ = some (.int .i64 k) := cell_of_row _ _ _ _ _ _ T.out.blk
  have x1 : (w.alloc (.cells #[.int .i64 k, .string t] 23)).cell? ⟨w.heap.size, 1, none⟩ = some (.string t) := cell_of_row _ _ _ _ _ _ T.out.blk
  by_cases hs : 300 < s.size
  · have d1 : decide ((s.size : Int) > 300) = true := by simp; omega
    go_enter Tryd.func7, Tryd.ntmps7
    go_upto_region 1 with fail
    generalize w.alloc (.cells #[.int .i64 k, .string t] 23) = w0 at *
    go_wp2_with (first
      | (go_at_call 16; refine (awake_any _).mono ?_; rintro e w1 ⟨rfl, hb1⟩; have Hb1 := Lib.hid hb1; clear hb1))
    go_ret
    exact ⟨rfl, below_trans T.out.below Hb1.out⟩
  have d1 : decide ((s.size : Int) > 300) = false := by simp; omega
  by_cases ht : 300 < t.size
  · have d2 : decide ((t.size : Int) > 300) = true := by simp; omega
    go_enter Tryd.func7, Tryd.ntmps7
    go_upto_region 1 with fail
    generalize w.alloc (.cells #[.int .i64 k, .string t] 23) = w0 at *
    go_wp2_with (first
      | (go_at_call 16; refine (awake_any _).mono ?_; rintro e w1 ⟨rfl, hb1⟩; have Hb1 := Lib.hid hb1; clear hb1))
    go_ret
    exact ⟨rfl, below_trans T.out.below Hb1.out⟩
  have d2 : decide ((t.size : Int) > 300) = false := by simp; omega
  have hF := formatKey_any k t (by omega)
  have hV := refValidKey_any k t
  cases hv : valK k t.data.toList with
  | false =>
    rw [hv] at hV
    have hf : fmtK k t.data.toList = [] := by unfold fmtK; rw [hv]; rfl
    rw [hf] at hF
    clear hf hv
    go_enter Tryd.func7, Tryd.ntmps7
    go_upto_region 1 with fail
    generalize w.alloc (.cells #[.int .i64 k, .string t] 23) = w0 at *
    go_wp2_with (first
      | (go_at_call 23; refine (hF _).mono ?_; rintro e w1 ⟨rfl, hb1⟩; have Hb1 := Lib.hid hb1; clear hb1; have T1 := Lib.hid (T.out.step Hb1.out); have x2 : w1.cell? ⟨w.heap.size, 0, none⟩ = some (.int .i64 k) := cell_of_row _ _ _ _ _ _ T1.out.blk; have x3 : w1.cell? ⟨w.heap.size, 1, none⟩ = some (.string t) := cell_of_row _ _ _ _ _ _ T1.out.blk)
      | (go_at_call 15; refine (hV _).mono ?_; rintro e w2 ⟨rfl, hb2⟩; have Hb2 := Lib.hid hb2; clear hb2)
      | (go_at_call 16; refine (awake_any _).mono ?_; rintro e w3 ⟨rfl, hb3⟩; have Hb3 := Lib.hid hb3; clear hb3))
    go_ret
    exact ⟨rfl, below_trans (below_trans T1.out.below Hb2.out) Hb3.out⟩
  | true =>
    rw [hv] at hV
    have hpf := parK_fmt hv
    have hfz : (⟨(fmtK k t.data.toList).toArray⟩ : ByteArray).size ≤ 4 * t.size + 2 := by
      have := quo_size t.data.toList
      rw [list_size] at this
      unfold fmtK
      rw [hv, if_pos rfl]
      split
      · show t.data.toList.toArray.size ≤ _
        have := list_size t
        simp at this ⊢; omega
      · exact this
    have hP := parseKey_any ⟨(fmtK k t.data.toList).toArray⟩ (by omega)
    have hpr : parR ⟨(fmtK k t.data.toList).toArray⟩ = .returned (.tuple #[.agg #[.int .i64 k, .string t], .int .i64 0]) := parR_some (s := ⟨(fmtK k t.data.toList).toArray⟩) hpf
    rw [hpr] at hP
    clear hpr hpf hfz hv
    generalize (⟨(fmtK k t.data.toList).toArray⟩ : ByteArray) = f at *
    have hP2 := parseKey_any s (by omega)
    have hR2 := refParseKey_any s (by omega)
    have hsame := run_eql_key_same
    cases hq : parK s.data.toList with
    | none =>
      rw [parR_none hq] at hP2
      rw [parB_none hq] at hR2
      clear hq
      go_enter Tryd.func7, Tryd.ntmps7
      go_upto_region 1 with fail
      generalize w.alloc (.cells #[.int .i64 k, .string t] 23) = w0 at *
      go_upto_region 9 with (first
        | (go_at_call 23; refine (hF _).mono ?_; rintro e w1 ⟨rfl, hb1⟩; have Hb1 := Lib.hid hb1; clear hb1; have T1 := Lib.hid (T.out.step Hb1.out); have x2 : w1.cell? ⟨w.heap.size, 0, none⟩ = some (.int .i64 k) := cell_of_row _ _ _ _ _ _ T1.out.blk; have x3 : w1.cell? ⟨w.heap.size, 1, none⟩ = some (.string t) := cell_of_row _ _ _ _ _ _ T1.out.blk)
        | (go_at_call 15; refine (hV _).mono ?_; rintro e w2 ⟨rfl, hb2⟩; have Hb2 := Lib.hid hb2; clear hb2; have T2 := Lib.hid (T1.out.step Hb2.out))
        | (go_at_call 24; first
            | (with_reducible refine (hP _).mono ?_; rintro e w3 ⟨rfl, hb3⟩; have Hb3 := Lib.hid hb3; clear hb3; have T3 := Lib.hid (T2.out.step Hb3.out))
            | (with_reducible refine (hP2 _).mono ?_; rintro e w4 ⟨rfl, hb4⟩; have Hb4 := Lib.hid hb4; clear hb4))
        | (go_at_call 25; refine (hR2 _).mono ?_; rintro e w5 ⟨rfl, hb5⟩; have Hb5 := Lib.hid hb5; clear hb5))
      have B0 : Blk w.heap.size k t (w5.alloc (.cells #[.int .i64 0, .string ⟨#[]⟩] 23)) := (((((show Blk w.heap.size k t w3 from T3.out.blk).alloc _).below Hb4.out).alloc _).below Hb5.out).alloc _
      have B3 : Blk w3.heap.size k t (w5.alloc (.cells #[.int .i64 0, .string ⟨#[]⟩] 23)) := (((((Blk.new w3 k t).below Hb4.out).alloc _).below Hb5.out).alloc _)
      have B4 : Blk w4.heap.size 0 ⟨#[]⟩ (w5.alloc (.cells #[.int .i64 0, .string ⟨#[]⟩] 23)) := (((Blk.new w4 0 ⟨#[]⟩).below Hb5.out).alloc _)
      have B5 : Blk w5.heap.size 0 ⟨#[]⟩ (w5.alloc (.cells #[.int .i64 0, .string ⟨#[]⟩] 23)) := Blk.new _ _ _
      have H9 := Lib.hid (below_alloc (below_trans (below_alloc (below_trans (below_alloc T3.out.below (.cells #[.int .i64 k, .string t] 23)) Hb4.out) (.cells #[.int .i64 0, .string ⟨#[]⟩] 23)) Hb5.out) (.cells #[.int .i64 0, .string ⟨#[]⟩] 23))
      generalize w5.alloc (.cells #[.int .i64 0, .string ⟨#[]⟩] 23) = w9 at *
      have y0 := B0.cell0
      have y1 := B0.cell1
      have y2 := B3.cell0
      have y3 := B3.cell1
      have y4 := B4.cell0
      have y5 := B4.cell1
      have y6 := B5.cell0
      have y7 := B5.cell1
      clear B0 B3 B4 B5 x0 x1 x2 x3
      go_wp2_with (first
        | (go_at_call 16; refine (awake_any _).mono ?_; rintro e w8 ⟨rfl, hb8⟩; have Hb8 := Lib.hid hb8; clear hb8))
      go_ret
      exact ⟨rfl, below_trans H9.out Hb8.out⟩
    | some p =>
      obtain ⟨k2, l2⟩ := p
      rw [parR_some hq] at hP2
      rw [parB_some hq] at hR2
      obtain ⟨hv2, hf2⟩ := fmt_parK hq
      have hl2 : l2.length ≤ 64 := by
        rcases valK_one hv2 with ⟨_, h⟩ | ⟨_, h⟩
        · match l2, h with
          | c :: r, h => simp [isAtm, isNm] at h; simp; omega
        · exact h
      have hF2 := formatKey_any k2 ⟨l2.toArray⟩ (by show l2.toArray.size ≤ _; simp; omega)
      rw [show (⟨(fmtK k2 (⟨l2.toArray⟩ : ByteArray).data.toList).toArray⟩ : ByteArray) = s by show (⟨(fmtK k2 l2).toArray⟩ : ByteArray) = s; rw [hf2]] at hF2
      clear hq hv2 hf2 hl2
      generalize (⟨l2.toArray⟩ : ByteArray) = t2 at *
      go_enter Tryd.func7, Tryd.ntmps7
      go_upto_region 1 with fail
      generalize w.alloc (.cells #[.int .i64 k, .string t] 23) = w0 at *
      go_upto_region 9 with (first
        | (go_at_call 23; refine (hF _).mono ?_; rintro e w1 ⟨rfl, hb1⟩; have Hb1 := Lib.hid hb1; clear hb1; have T1 := Lib.hid (T.out.step Hb1.out); have x2 : w1.cell? ⟨w.heap.size, 0, none⟩ = some (.int .i64 k) := cell_of_row _ _ _ _ _ _ T1.out.blk; have x3 : w1.cell? ⟨w.heap.size, 1, none⟩ = some (.string t) := cell_of_row _ _ _ _ _ _ T1.out.blk)
        | (go_at_call 15; refine (hV _).mono ?_; rintro e w2 ⟨rfl, hb2⟩; have Hb2 := Lib.hid hb2; clear hb2; have T2 := Lib.hid (T1.out.step Hb2.out))
        | (go_at_call 24; first
            | (with_reducible refine (hP _).mono ?_; rintro e w3 ⟨rfl, hb3⟩; have Hb3 := Lib.hid hb3; clear hb3; have T3 := Lib.hid (T2.out.step Hb3.out))
            | (with_reducible refine (hP2 _).mono ?_; rintro e w4 ⟨rfl, hb4⟩; have Hb4 := Lib.hid hb4; clear hb4))
        | (go_at_call 25; refine (hR2 _).mono ?_; rintro e w5 ⟨rfl, hb5⟩; have Hb5 := Lib.hid hb5; clear hb5))
      have B0 : Blk w.heap.size k t (w5.alloc (.cells #[.int .i64 k2, .string t2] 23)) := (((((show Blk w.heap.size k t w3 from T3.out.blk).alloc _).below Hb4.out).alloc _).below Hb5.out).alloc _
      have B3 : Blk w3.heap.size k t (w5.alloc (.cells #[.int .i64 k2, .string t2] 23)) := (((((Blk.new w3 k t).below Hb4.out).alloc _).below Hb5.out).alloc _)
      have B4 : Blk w4.heap.size k2 t2 (w5.alloc (.cells #[.int .i64 k2, .string t2] 23)) := (((Blk.new w4 k2 t2).below Hb5.out).alloc _)
      have B5 : Blk w5.heap.size k2 t2 (w5.alloc (.cells #[.int .i64 k2, .string t2] 23)) := Blk.new _ _ _
      have H9 := Lib.hid (below_alloc (below_trans (below_alloc (below_trans (below_alloc T3.out.below (.cells #[.int .i64 k, .string t] 23)) Hb4.out) (.cells #[.int .i64 k2, .string t2] 23)) Hb5.out) (.cells #[.int .i64 k2, .string t2] 23))
      generalize w5.alloc (.cells #[.int .i64 k2, .string t2] 23) = w9 at *
      have y0 := B0.cell0
      have y1 := B0.cell1
      have y2 := B3.cell0
      have y3 := B3.cell1
      have y4 := B4.cell0
      have y5 := B4.cell1
      have y6 := B5.cell0
      have y7 := B5.cell1
      clear B0 B3 B4 B5 x0 x1 x2 x3
      go_wp2_with (first
        | (go_at_call 23; refine (hF2 _).mono ?_; rintro e w7 ⟨rfl, hb7⟩; have Hb7 := Lib.hid hb7; clear hb7)
        | (go_at_call 16; refine (awake_any _).mono ?_; rintro e w8 ⟨rfl, hb8⟩; have Hb8 := Lib.hid hb8; clear hb8))
      go_ret
      exact ⟨rfl, below_trans (below_trans H9.out Hb7.out) Hb8.out⟩
end Go.Proofs.YtejiagmfinhjbaaDoor
