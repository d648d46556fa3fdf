/-
  Walks: FormatKey, ParseKey.
-/
import Derived.Test.YtejiagmfinhjbaaDoorIe
import Derived.Laws.Rows
import Derived.Laws.Tables
import Derived.Deep.DeepCutAuto
namespace Go.Proofs.YtejiagmfinhjbaaDoor
open Go.RowKit Go.Ident

theorem box_cells {w w1 : World} {k : Int} {s : ByteArray} (hb : Below (w.alloc (.cells #[.int .i64 k, .string s] 23)).heap.size (w.alloc (.cells #[.int .i64 k, .string s] 23)) w1) :
    w1.cell? ⟨w.heap.size, 0, none⟩ = some (.int .i64 k) ∧ w1.cell? ⟨w.heap.size, 1, none⟩ = some (.string s) := by
  have hg : w1.heap[w.heap.size]? = some (.cells #[.int .i64 k, .string s] 23) := (hb.block _ (by simp)).trans (heap_alloc_new _ _)
  exact ⟨cell_of_row _ _ _ _ _ _ hg, cell_of_row _ _ _ _ _ _ hg⟩
set_option maxRecDepth 100000 in
set_option maxHeartbeats 8000000 in
theorem formatKey_any (k : Int) (s : ByteArray) (hs : s.size ≤ 1000000) (w : World) : Calls Tryd.prog 23 #[.agg #[.int .i64 k, .string s]] w fun e w' => e = .returned (.string ⟨(fmtK k s.data.toList).toArray⟩) ∧ Below w.heap.size w w' := by
  have hB := (Below.refl w.heap.size w).alloc (Nat.le_refl _) (.cells #[.int .i64 k, .string s] 23)
  have HB := Lib.hid hB; clear hB
  have hv := validKey_any k s
  have hq := quote_any s hs
  cases hc : valK k s.data.toList with
  | false =>
    rw [hc] at hv
    have hf : fmtK k s.data.toList = [] := by unfold fmtK; rw [hc]; rfl
    rw [hf]
    go_enter Tryd.func23, Tryd.ntmps23
    go_wp2_with (first
      | (go_at_call 14; refine (hv _).mono ?_; rintro e w1 ⟨rfl, hb1⟩; obtain ⟨y0, y1⟩ := box_cells hb1))
    go_ret
    exact ⟨rfl, HB.out.trans (hb1.mono (by simp))⟩
  | true =>
    rw [hc] at hv
    by_cases h0 : k = 0
    · subst h0
      have hf : fmtK 0 s.data.toList = s.data.toList := by unfold fmtK; rw [hc]; rfl
      rw [hf]
      go_enter Tryd.func23, Tryd.ntmps23
      go_wp2_with (first
        | (go_at_call 14; refine (hv _).mono ?_; rintro e w1 ⟨rfl, hb1⟩; obtain ⟨y0, y1⟩ := box_cells hb1))
      go_ret
      exact ⟨rfl, HB.out.trans (hb1.mono (by simp))⟩
    · have hf : fmtK k s.data.toList = quo s.data.toList := by unfold fmtK; rw [hc, if_pos rfl, if_neg h0]
      rw [hf]
      have d0 : (k == 0) = false := by simpa using h0
      go_enter Tryd.func23, Tryd.ntmps23
      go_wp2_with (first
        | (go_at_call 14; refine (hv _).mono ?_; rintro e w1 ⟨rfl, hb1⟩; obtain ⟨y0, y1⟩ := box_cells hb1)
        | (go_at_call 17; refine (hq _).mono ?_; rintro e w2 ⟨rfl, hb2⟩))
      go_ret
      exact ⟨rfl, (HB.out.trans (hb1.mono (by simp))).trans (hb2.mono (Nat.le_trans (by simp) hb1.size))⟩
end Go.Proofs.YtejiagmfinhjbaaDoor
namespace Go.Proofs.YtejiagmfinhjbaaDoor
open Go.RowKit Go.Ident
theorem results_cell_one {P : Program} {fn : Func} {p u : Tmp} {ty : TypeId} (h : fn.results = #[.cell p ty, .tmp u]) (tmps : Array Value) (w : World) (g : Nat) (t : TypeId) (cs : Array Value) (fr : Nat × Nat) (d : TypeDesc)
    (hp : tmps.getD p undef = .pointer (some ⟨g, 0, none⟩)) (hg : w.heap[g]? = some (.cells cs t fr))
    (hu : P.underlying ty = some d) (hd : (match d with | .struct _ | .array _ _ => true | _ => false) = true) (hi : (P.info? ty).map (·.size) = some cs.size) :
    (results fn tmps).run P w = .ok (.tuple #[.agg cs, tmps.getD u undef]) w := by
  have hp' : tmps[p]?.getD undef = .pointer (some ⟨g, 0, none⟩) := by simpa using hp
  simp [results, h, hp', asAddr, run_loadVar_row w g t ty cs fr d hg hu hd hi]
/-- What ParseKey returns. -/
def parR (s : ByteArray) : Ending := match parK s.data.toList with
  | some (k, t) => .returned (.tuple #[.agg #[.int .i64 k, .string ⟨t.toArray⟩], .int .i64 0])
  | none => .returned (.tuple #[.agg #[.int .i64 0, .string ⟨#[]⟩], .int .i64 5])
/-- Two blocks of keys that the call has made. -/
structure Two (w : World) (k0 : Int) (s0 : ByteArray) (k1 : Int) (s1 : ByteArray) (wr : World) : Prop where
  b0 : wr.heap[w.heap.size]? = some (.cells #[.int .i64 k0, .string s0] 23)
  b1 : wr.heap[w.heap.size + 1]? = some (.cells #[.int .i64 k1, .string s1] 23)
  below : Below w.heap.size w wr

theorem at_store {P : Program} {ops : Array Oper} {rest : List Oper} {d : Option Tmp} {ty ty2 : TypeId} {x y : Operand} {pos : String} {after : Array Edge} {g : Option (Nat × Bool)} {a : Act} {w : World} {Q : Exit → Act → World → Prop}
    (h : wpList P ops Q ({ dst := d, op := .store ty x y, type := ty2, pos := pos, after := after, guard := g } :: rest) a w) : wpList P ops Q ({ dst := d, op := .store ty x y, type := ty2, pos := pos, after := after, guard := g } :: rest) a w := h
theorem at_load23 {P : Program} {ops : Array Oper} {rest : List Oper} {d : Option Tmp} {ty2 : TypeId} {x : Operand} {pos : String} {after : Array Edge} {g : Option (Nat × Bool)} {a : Act} {w : World} {Q : Exit → Act → World → Prop}
    (h : wpList P ops Q ({ dst := d, op := .load 23 x, type := ty2, pos := pos, after := after, guard := g } :: rest) a w) : wpList P ops Q ({ dst := d, op := .load 23 x, type := ty2, pos := pos, after := after, guard := g } :: rest) a w := h
theorem Two.start (w : World) (k0 : Int) (s0 : ByteArray) (k1 : Int) (s1 : ByteArray) : Two w k0 s0 k1 s1 ((w.alloc (Obj.cells #[Value.int IntKind.i64 k0, Value.string s0] 23)).alloc (Obj.cells #[Value.int IntKind.i64 k1, Value.string s1] 23)) := by
  have hs : (w.alloc (Obj.cells #[Value.int IntKind.i64 k0, Value.string s0] 23)).heap.size = w.heap.size + 1 := by simp
  refine ⟨?_, ?_, ((Below.refl _ _).alloc (Nat.le_refl _) _).alloc (by simp) _⟩
  · rw [heap_alloc_old _ _ (by simp)]; exact heap_alloc_new _ _
  · rw [← hs]; exact heap_alloc_new _ _
theorem Two.size {w wr : World} {k0 k1 : Int} {s0 s1 : ByteArray} (h : Two w k0 s0 k1 s1 wr) : w.heap.size + 1 < wr.heap.size := Lib.lt_of_heap h.b1
theorem Two.step {w wr w2 : World} {k0 k1 : Int} {s0 s1 : ByteArray} (h : Two w k0 s0 k1 s1 wr) (hb : Below wr.heap.size wr w2) : Two w k0 s0 k1 s1 w2 :=
  ⟨(hb.block _ (by have := h.size; omega)).trans h.b0, (hb.block _ h.size).trans h.b1, h.below.trans (hb.mono h.below.size)⟩
theorem below_setRow {B b : Nat} {w w' : World} (h : Below B w w') (hb : B ≤ b) (cs : Array Value) : Below B w (w'.setRow b cs) :=
  ⟨h.os, h.tape, h.output, by rw [size_setRow]; exact h.size, fun i hi => by rw [setRow_other _ _ _ _ (by omega)]; exact h.block i hi⟩
theorem Two.set1 {w wr : World} {k0 k1 k : Int} {s0 s1 t : ByteArray} (h : Two w k0 s0 k1 s1 wr) : Two w k0 s0 k t (wr.setRow (w.heap.size + 1) #[.int .i64 k, .string t]) :=
  ⟨by rw [setRow_other _ _ _ _ (by omega)]; exact h.b0, setRow_heap _ _ _ _ _ _ h.b1, below_setRow h.below (by omega) _⟩
theorem Two.set0 {w wr : World} {k0 k1 k : Int} {s0 s1 t : ByteArray} (h : Two w k0 s0 k1 s1 wr) : Two w k t k1 s1 (wr.setRow w.heap.size #[.int .i64 k, .string t]) :=
  ⟨setRow_heap _ _ _ _ _ _ h.b0, by rw [setRow_other _ _ _ _ (by omega)]; exact h.b1, below_setRow h.below (by omega) _⟩

set_option maxRecDepth 100000 in
set_option maxHeartbeats 8000000 in
theorem parseKey_any (s : ByteArray) (hs : s.size ≤ 1000000) (w : World) : Calls Tryd.prog 24 #[.string s] w fun e w' => e = parR s ∧ Below w.heap.size w w' := by
  have hp := Tryd.strings_HasPrefix s ⟨#[34]⟩
  have hu := unquote_any s hs
  have hT := Two.start w 0 ⟨#[]⟩ 0 s
  have T := Lib.hid hT; clear hT
  cases hx : Lib.hasPrefix s.data.toList (⟨#[34]⟩ : ByteArray).data.toList with
  | true =>
    rw [hx] at hp
    obtain ⟨r, hr⟩ : ∃ r, s.data.toList = 34 :: r := by
      generalize s.data.toList = l at *
      match l, hx with
      | [], hx => simp [Lib.hasPrefix, List.isPrefixOf] at hx
      | c :: r, hx => simp [Lib.hasPrefix, List.isPrefixOf] at hx; subst hx; exact ⟨r, rfl⟩
    cases hq : unq s.data.toList with
    | none =>
      rw [unqR_none hq] at hu
      have hpar : parR s = .returned (.tuple #[.agg #[.int .i64 0, .string ⟨#[]⟩], .int .i64 5]) := by
        rw [hr] at hq
        unfold parR parK; rw [hr]; simp [hq]
      rw [hpar]
      go_enter Tryd.func24, Tryd.ntmps24
      go_upto_region 2 with fail
      generalize (w.alloc (Obj.cells #[Value.int IntKind.i64 0, Value.string { data := #[] }] 23)).alloc (Obj.cells #[Value.int IntKind.i64 0, Value.string s] 23) = w1 at *
      go_wp2_with (first
        | ((with_reducible refine at_store ?_); refine wpList_store_row rfl 23 (.tmp 2) (.tmp 18) rfl _ _ rfl rfl _ _ T2.out.b0 (by kernel_rfl) (by kernel_rfl) (by kernel_rfl) ?_)
        | (go_at_call 47; refine (hp _).mono ?_; rintro e w2 ⟨rfl, rfl⟩)
        | (go_at_call 18; refine (hu _).mono ?_; rintro e w2 ⟨rfl, hb2⟩; have T2 := Lib.hid (T.out.step hb2)))
      exact bodyPost_ret (results_cell_one rfl _ _ w.heap.size 23 _ (0, 0) _ rfl (setRow_heap _ _ _ _ _ _ T2.out.b0) rfl rfl (by kernel_rfl)) rfl ⟨rfl, below_setRow T2.out.below (Nat.le_refl _) _⟩
    | some t =>
      rw [unqR_some hq] at hu
      have hv := validKey_any 1 ⟨t.toArray⟩
      have hvk : valK 1 t = decide (t.length ≤ 64) := rfl
      rw [show ((⟨t.toArray⟩ : ByteArray).data.toList) = t from rfl, hvk] at hv
      by_cases hl : t.length ≤ 64
      · rw [decide_eq_true hl] at hv
        have hpar : parR s = .returned (.tuple #[.agg #[.int .i64 1, .string ⟨t.toArray⟩], .int .i64 0]) := by
          rw [hr] at hq
          unfold parR parK; rw [hr]; simp [hq, hl]
        rw [hpar]
        clear hl hvk hpar
        go_enter Tryd.func24, Tryd.ntmps24
        go_upto_region 2 with fail
        generalize (w.alloc (Obj.cells #[Value.int IntKind.i64 0, Value.string { data := #[] }] 23)).alloc (Obj.cells #[Value.int IntKind.i64 0, Value.string s] 23) = w1 at *
        go_wp2_with (first
          | ((with_reducible refine at_store ?_); first
              | (refine wpList_store_row rfl 23 (.tmp 2) (.tmp 26) rfl _ _ rfl rfl _ _ T4.out.b0 (by kernel_rfl) (by kernel_rfl) (by kernel_rfl) ?_)
              | (refine wpList_store_row rfl 23 (.tmp 4) (.tmp 21) rfl _ _ rfl rfl _ _ T2.out.b1 (by kernel_rfl) (by kernel_rfl) (by kernel_rfl) ?_; have T3 := Lib.hid (T2.out.set1 (k := 1) (t := ⟨t.toArray⟩))))
          | ((with_reducible refine at_load23 ?_); first
              | (refine wpList_load_row rfl 23 (.tmp 4) rfl _ rfl _ _ _ _ T4.out.b1 rfl rfl (by kernel_rfl) ?_)
              | (refine wpList_load_row rfl 23 (.tmp 4) rfl _ rfl _ _ _ _ T3.out.b1 rfl rfl (by kernel_rfl) ?_))
          | (go_at_call 47; refine (hp _).mono ?_; rintro e w2 ⟨rfl, rfl⟩)
          | (go_at_call 14; refine (hv _).mono ?_; rintro e w3 ⟨rfl, hb3⟩; have T4 := Lib.hid (T3.out.step hb3))
          | (go_at_call 18; refine (hu _).mono ?_; rintro e w2 ⟨rfl, hb2⟩; have T2 := Lib.hid (T.out.step hb2)))
        exact bodyPost_ret (results_cell_one rfl _ _ w.heap.size 23 _ (0, 0) _ rfl (setRow_heap _ _ _ _ _ _ T4.out.b0) rfl rfl (by kernel_rfl)) rfl ⟨rfl, below_setRow T4.out.below (Nat.le_refl _) _⟩
      · rw [decide_eq_false hl] at hv
        have hpar : parR s = .returned (.tuple #[.agg #[.int .i64 0, .string ⟨#[]⟩], .int .i64 5]) := by
          rw [hr] at hq
          unfold parR parK; rw [hr]; simp [hq, hl]
        rw [hpar]
        clear hl hvk hpar
        go_enter Tryd.func24, Tryd.ntmps24
        go_upto_region 2 with fail
        generalize (w.alloc (Obj.cells #[Value.int IntKind.i64 0, Value.string { data := #[] }] 23)).alloc (Obj.cells #[Value.int IntKind.i64 0, Value.string s] 23) = w1 at *
        go_wp2_with (first
          | ((with_reducible refine at_store ?_); first
              | (refine wpList_store_row rfl 23 (.tmp 2) (.tmp 25) rfl _ _ rfl rfl _ _ T4.out.b0 (by kernel_rfl) (by kernel_rfl) (by kernel_rfl) ?_)
              | (refine wpList_store_row rfl 23 (.tmp 4) (.tmp 21) rfl _ _ rfl rfl _ _ T2.out.b1 (by kernel_rfl) (by kernel_rfl) (by kernel_rfl) ?_; have T3 := Lib.hid (T2.out.set1 (k := 1) (t := ⟨t.toArray⟩))))
          | ((with_reducible refine at_load23 ?_); refine wpList_load_row rfl 23 (.tmp 4) rfl _ rfl _ _ _ _ T3.out.b1 rfl rfl (by kernel_rfl) ?_)
          | (go_at_call 47; refine (hp _).mono ?_; rintro e w2 ⟨rfl, rfl⟩)
          | (go_at_call 14; refine (hv _).mono ?_; rintro e w3 ⟨rfl, hb3⟩; have T4 := Lib.hid (T3.out.step hb3))
          | (go_at_call 18; refine (hu _).mono ?_; rintro e w2 ⟨rfl, hb2⟩; have T2 := Lib.hid (T.out.step hb2)))
        exact bodyPost_ret (results_cell_one rfl _ _ w.heap.size 23 _ (0, 0) _ rfl (setRow_heap _ _ _ _ _ _ T4.out.b0) rfl rfl (by kernel_rfl)) rfl ⟨rfl, below_setRow T4.out.below (Nat.le_refl _) _⟩
  | false =>
    rw [hx] at hp
    have hpk : parK s.data.toList = if isAtm s.data.toList then some ((0 : Int), s.data.toList) else none := by
      have h34 : ∀ r, s.data.toList ≠ 34 :: r := by
        rintro r hr
        rw [hr] at hx
        simp [Lib.hasPrefix, List.isPrefixOf] at hx
      unfold parK
      split
      · rename_i r hr; exact absurd hr (h34 r)
      · rfl
    have hv := validKey_any 0 s
    have hvk : valK 0 s.data.toList = isAtm s.data.toList := rfl
    rw [hvk] at hv
    cases hl : isAtm s.data.toList with
    | true =>
      rw [hl] at hv
      have hpar : parR s = .returned (.tuple #[.agg #[.int .i64 0, .string s], .int .i64 0]) := by
        unfold parR; rw [hpk, hl]; rfl
      rw [hpar]
      clear hl hvk hpar hpk
      go_enter Tryd.func24, Tryd.ntmps24
      go_upto_region 2 with fail
      generalize (w.alloc (Obj.cells #[Value.int IntKind.i64 0, Value.string { data := #[] }] 23)).alloc (Obj.cells #[Value.int IntKind.i64 0, Value.string s] 23) = w1 at *
      go_wp2_with (first
        | ((with_reducible refine at_store ?_); refine wpList_store_row rfl 23 (.tmp 2) (.tmp 26) rfl _ _ rfl rfl _ _ T4.out.b0 (by kernel_rfl) (by kernel_rfl) (by kernel_rfl) ?_)
        | ((with_reducible refine at_load23 ?_); first
            | (refine wpList_load_row rfl 23 (.tmp 4) rfl _ rfl _ _ _ _ T4.out.b1 rfl rfl (by kernel_rfl) ?_)
            | (refine wpList_load_row rfl 23 (.tmp 4) rfl _ rfl _ _ _ _ T.out.b1 rfl rfl (by kernel_rfl) ?_))
        | (go_at_call 47; refine (hp _).mono ?_; rintro e w2 ⟨rfl, rfl⟩)
        | (go_at_call 14; refine (hv _).mono ?_; rintro e w3 ⟨rfl, hb3⟩; have T4 := Lib.hid (T.out.step hb3)))
      exact bodyPost_ret (results_cell_one rfl _ _ w.heap.size 23 _ (0, 0) _ rfl (setRow_heap _ _ _ _ _ _ T4.out.b0) rfl rfl (by kernel_rfl)) rfl ⟨rfl, below_setRow T4.out.below (Nat.le_refl _) _⟩
    | false =>
      rw [hl] at hv
      have hpar : parR s = .returned (.tuple #[.agg #[.int .i64 0, .string ⟨#[]⟩], .int .i64 5]) := by
        unfold parR; rw [hpk, hl]; rfl
      rw [hpar]
      clear hl hvk hpar hpk
      go_enter Tryd.func24, Tryd.ntmps24
      go_upto_region 2 with fail
      generalize (w.alloc (Obj.cells #[Value.int IntKind.i64 0, Value.string { data := #[] }] 23)).alloc (Obj.cells #[Value.int IntKind.i64 0, Value.string s] 23) = w1 at *
      go_wp2_with (first
        | ((with_reducible refine at_store ?_); refine wpList_store_row rfl 23 (.tmp 2) (.tmp 25) rfl _ _ rfl rfl _ _ T4.out.b0 (by kernel_rfl) (by kernel_rfl) (by kernel_rfl) ?_)
        | ((with_reducible refine at_load23 ?_); refine wpList_load_row rfl 23 (.tmp 4) rfl _ rfl _ _ _ _ T.out.b1 rfl rfl (by kernel_rfl) ?_)
        | (go_at_call 47; refine (hp _).mono ?_; rintro e w2 ⟨rfl, rfl⟩)
        | (go_at_call 14; refine (hv _).mono ?_; rintro e w3 ⟨rfl, hb3⟩; have T4 := Lib.hid (T.out.step hb3)))
      exact bodyPost_ret (results_cell_one rfl _ _ w.heap.size 23 _ (0, 0) _ rfl (setRow_heap _ _ _ _ _ _ T4.out.b0) rfl rfl (by kernel_rfl)) rfl ⟨rfl, below_setRow T4.out.below (Nat.le_refl _) _⟩
end Go.Proofs.YtejiagmfinhjbaaDoor
