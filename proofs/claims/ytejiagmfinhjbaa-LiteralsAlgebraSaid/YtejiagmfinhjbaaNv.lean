/-
  Walks: shorter, fits, First.
-/
import Derived.Test.YtejiagmfinhjbaaNu
namespace Go.Proofs.Ytejiagmfinhjbaa
open Go.RowKit Go.Ident Go.Names

theorem cb_lss (a : List UInt8) : ∀ b, Lib.compareBytes a b = if Op.bytesLess a b then -1 else if Op.bytesLess b a then 1 else 0 := by
  induction a with
  | nil => intro b; cases b <;> simp [Lib.compareBytes, Op.bytesLess]
  | cons x r ih =>
    intro b
    cases b with
    | nil => simp [Lib.compareBytes, Op.bytesLess]
    | cons y q =>
      simp only [Lib.compareBytes, Op.bytesLess]
      by_cases h1 : x < y
      · simp [h1]
      · by_cases h2 : y < x
        · have hne : x ≠ y := by rintro rfl; exact h1 h2
          simp [h1, h2, hne]
        · have he : x = y := UInt8.le_antisymm (UInt8.not_lt.1 h2) (UInt8.not_lt.1 h1)
          subst he
          simp [h1, ih]
/-- In order of length, then bytewise. -/
def bef (x y : Nm) : Bool := decide (x.length < y.length ∨ x.length = y.length ∧ x < y)
theorem size_toB (x : Nm) : (toB x).size = x.length := by show x.toArray.size = _; simp
set_option maxRecDepth 100000 in
theorem shorter_any (x y : Nm) (w : World) : Calls Try.prog 35 #[.string (toB x), .string (toB y)] w fun e w' => (∃ c : Int, e = .returned (.int .i64 c) ∧ decide (c < 0) = bef x y) ∧ w' = w := by
  have h1 := Try.cmp_Compare_int (x.length : Int) (y.length : Int)
  have h2 := Try.strings_Compare (toB x) (toB y)
  have hx := size_toB x
  have hy := size_toB y
  rcases Nat.lt_trichotomy x.length y.length with hl | hl | hl
  · have hb : bef x y = true := by unfold bef; simp [hl]
    have hc : Lib.compareInt (x.length : Int) (y.length : Int) = -1 := by unfold Lib.compareInt; rw [if_pos (by omega)]
    rw [hc] at h1
    have Hb := Lib.hid hb; clear hb hc hl h2
    generalize toB x = sx at *
    generalize toB y = sy at *
    go_enter Try.func35, Try.ntmps35
    go_wp2_with (first
      | (go_at_call 50; refine (h1 _).mono ?_; rintro e w1 ⟨rfl, hw⟩; subst hw))
    go_ret
    exact ⟨⟨-1, rfl, by rw [Hb.out]; rfl⟩, rfl⟩
  · have hc : Lib.compareInt (x.length : Int) (y.length : Int) = 0 := by unfold Lib.compareInt; rw [if_neg (by omega), if_neg (by omega)]
    rw [hc] at h1
    have hb : decide (Lib.compareBytes (toB x).data.toList (toB y).data.toList < 0) = bef x y := by
      rw [toB_list, toB_list, cb_lss]
      unfold bef
      have hbl := bl_dec x y
      cases hd : Op.bytesLess x y with
      | true =>
        rw [hd] at hbl
        have : x < y := by simpa using hbl.symm
        simp [hl, this]
      | false =>
        rw [hd] at hbl
        have hn : ¬ x < y := by simpa using hbl.symm
        simp only [hl, Nat.lt_irrefl, true_and, false_or, hn, decide_false, Bool.false_eq_true, if_false]
        split <;> decide
    have Hb := Lib.hid hb; clear hb hc hl
    generalize Lib.compareBytes (toB x).data.toList (toB y).data.toList = r at *
    generalize toB x = sx at *
    generalize toB y = sy at *
    go_enter Try.func35, Try.ntmps35
    go_wp2_with (first
      | (go_at_call 50; refine (h1 _).mono ?_; rintro e w1 ⟨rfl, hw⟩; subst hw)
      | (go_at_call 51; refine (h2 _).mono ?_; rintro e w1 ⟨rfl, hw⟩; subst hw))
    go_ret
    exact ⟨⟨r, rfl, Hb.out⟩, rfl⟩
  · have hb : bef x y = false := by unfold bef; simp; omega
    have hc : Lib.compareInt (x.length : Int) (y.length : Int) = 1 := by unfold Lib.compareInt; rw [if_neg (by omega), if_pos (by omega)]
    rw [hc] at h1
    have Hb := Lib.hid hb; clear hb hc hl h2
    generalize toB x = sx at *
    generalize toB y = sy at *
    go_enter Try.func35, Try.ntmps35
    go_wp2_with (first
      | (go_at_call 50; refine (h1 _).mono ?_; rintro e w1 ⟨rfl, hw⟩; subst hw))
    go_ret
    exact ⟨⟨1, rfl, by rw [Hb.out]; rfl⟩, rfl⟩
set_option maxRecDepth 100000 in
theorem fits_any (k : Int) (x : Nm) (w : World) : Calls Try.prog 37 #[.int .i64 k, .string (toB x)] w fun e w' => e = .returned (.bool (valK k x)) ∧ Below w.heap.size w w' := by
  have h := refValidKey_any k (toB x) w
  rw [toB_list] at h
  generalize valK k x = r at *
  generalize toB x = sx at *
  go_enter Try.func37, Try.ntmps37
  go_wp2_with (first
    | (go_at_call 17; refine h.mono ?_; rintro e w1 ⟨rfl, hb⟩))
  go_ret
  exact ⟨rfl, hb⟩
theorem key_info : (Try.prog.info? 36).map (fun i => (i.zero, i.size, i.bytes)) = some (some (.agg #[.int .i64 0, .string ByteArray.empty]), 2, 24) := by kernel_rfl
def keyCells (k : Int) (L : List Nm) : List Value := L.flatMap fun x => [.int .i64 k, .string (toB x)]
theorem keyCells_snoc (k : Int) (L : List Nm) (x : Nm) : keyCells k (L ++ [x]) = keyCells k L ++ [.int .i64 k, .string (toB x)] := by simp [keyCells]
theorem keyCells_len (k : Int) (L : List Nm) : (keyCells k L).length = L.length * 2 := by
  induction L with
  | nil => rfl
  | cons x r ih => show (_ :: _ :: keyCells k r).length = _; simp [ih]; omega
theorem keyCells_get (k : Int) (L : List Nm) : ∀ i (h : i < L.length), (keyCells k L)[i * 2]? = some (.int .i64 k) ∧ (keyCells k L)[i * 2 + 1]? = some (.string (toB L[i])) := by
  induction L with
  | nil => intro i h; cases h
  | cons x r ih =>
    intro i h
    cases i with
    | zero => exact ⟨rfl, rfl⟩
    | succ i =>
      have := ih i (by simpa using h)
      show (_ :: _ :: keyCells k r)[(i + 1) * 2]? = _ ∧ (_ :: _ :: keyCells k r)[(i + 1) * 2 + 1]? = _
      rw [show (i + 1) * 2 = i * 2 + 2 by omega]
      simpa using this
/-- The keys of a kind, in a row of the call's own. -/
structure KS (B : Nat) (w : World) (v : Value) (k : Int) (L : List Nm) : Prop where
  row : w.ownsRow B 36 2 v L.length (keyCells k L)
  size : ∀ x ∈ L, x.length ≤ maxLen
theorem KS.nil (B : Nat) (w : World) (k : Int) : KS B w (.slice none 0 0) k [] := ⟨World.ownsRow_nil w B 36 2, by simp⟩
theorem KS.cut {B : Nat} {w : World} {v : Value} {k : Int} {L : List Nm} (h : KS B w v k L) : ∃ p cap, v = .slice p L.length cap ∧ L.length ≤ cap := by
  rcases h.row.2 with ⟨h1, h2⟩ | ⟨g, cap, cur, h1, _, _, h2, _⟩
  · exact ⟨none, 0, by rw [h1, h2], by omega⟩
  · exact ⟨_, cap, h1, h2⟩
theorem KS.below {B : Nat} {w w' : World} {v : Value} {k : Int} {L : List Nm} (h : KS B w v k L) (hb : Below w.heap.size w w') : KS B w' v k L :=
  ⟨h.row.kept (row := none) ⟨hb.os, hb.tape, hb.output, hb.size, fun k hk _ => hb.block k hk⟩ (by cases v.ownBlock <;> simp), h.size⟩
theorem KS.cell {B : Nat} {w : World} {p : Option Addr} {n cap : Nat} {k : Int} {L : List Nm} (h : KS B w (.slice p n cap) k L) (i : Nat) (hi : i < L.length) :
    ∃ g, p = some ⟨g, 0, none⟩ ∧ g < w.heap.size ∧ w.cell? ⟨g, 0 + i * 2, none⟩ = some (.int .i64 k) ∧ w.cell? ⟨g, 0 + i * 2 + 1, none⟩ = some (.string (toB L[i])) := by
  rcases h.row.2 with ⟨h1, h2⟩ | ⟨g, cap', cur, h1, h2, h3, _⟩
  · omega
  · injection h1 with h1 h5 h6
    subst h1 h5 h6
    have hc := keyCells_get k L i hi
    have c0 := h.row.cells (g := g) rfl (i * 2) _ hc.1
    have c1 := h.row.cells (g := g) rfl (i * 2 + 1) _ hc.2
    rw [Addr.add_lit] at c0 c1
    exact ⟨g, rfl, (h.row.lt g rfl).2, c0, by rw [Nat.add_assoc]; exact c1⟩
theorem KS.keys {B : Nat} {w : World} {p : Option Addr} {n cap : Nat} {k : Int} {L : List Nm} (h : KS B w (.slice p n cap) k L) : Keys w p (L.map fun x => (k, toB x)) := by
  refine ⟨fun i hi => ?_, fun i hi => ?_⟩
  · have hi' : i < L.length := by simpa using hi
    obtain ⟨g, h1, h2, h3, h4⟩ := h.cell i hi'
    refine ⟨g, 0, h1, h2, ?_, ?_⟩
    · rw [List.getElem_map]; exact h3
    · rw [List.getElem_map]; exact h4
  · rw [List.getElem_map]
    show (toB _).size ≤ _
    rw [size_toB]
    exact h.size _ (List.getElem_mem _)
theorem wpList_append_key {ops : Array Oper} {rest : List Oper} {o : Oper} {a : Act} {Q : Exit → Act → World → Prop} (hgd : o.guard = none) (s x : Operand)
    (ho : o.op = .call { callee := .builtin .append, args := #[s, x], argTypes := #[50, 50] })
    (B : Nat) (w0 : World) (hB : B ≤ w0.heap.size) (k : Int) (y : Nm) (hy : y.length ≤ maxLen) (v : Value) (L : List Nm) (hs : a.eval s = v) (hown : KS B w0 v k L) (hn : L.length ≤ 1000000)
    (hx : a.eval x = .slice (some ⟨w0.heap.size, 0, none⟩) 1 1)
    (h : ∀ v' w', KS B w' v' k (L ++ [y]) → (∀ w, Below B w w0 → Below B w w') → wpList Try.prog ops Q rest (a.put o.dst v') w') :
    wpList Try.prog ops Q (o :: rest) a (w0.alloc (.cells #[.int .i64 k, .string (toB y)] 36)) := by
  obtain ⟨i0, hi0, hz0, hz1, hz2⟩ := info_parts key_info
  refine wpList_append_own _ hgd s x 50 ho B 36 i0 _ 2 24 (by kernel_rfl) hi0 hz0 hz1 hz2 rfl (by decide) v L.length _ hs (hown.row.alloc _) ⟨w0.heap.size, 0, none⟩ 1 1 [.int .i64 k, .string (toB y)] hx rfl ?_ ?_ (by unfold maxLen; omega) (by omega) (by simp; omega) ?_
  · intro j u hj
    have hc : ∀ i, (w0.alloc (.cells #[.int .i64 k, .string (toB y)] 36)).cell? ⟨w0.heap.size, i, none⟩ = (#[Value.int .i64 k, .string (toB y)] : Array Value)[i]? := fun i => cell_of_row _ _ _ _ _ _ (heap_alloc_new _ _)
    match j, hj with
    | 0, hj => simp at hj; subst hj; exact hc 0
    | 1, hj => simp at hj; subst hj; exact hc 1
    | (j + 2), hj => simp at hj
  · intro u hu; simp at hu; rcases hu with rfl | rfl <;> rfl
  · intro v' w' ho' hg' _
    refine h v' w' ⟨?_, fun z hz => ?_⟩ (fun w hw => (hw.alloc hB _).grown hg' (by simp; omega) (fun q hq => (hown.row.lt q hq).1))
    · rw [List.length_append, keyCells_snoc]; exact ho'
    · rw [List.mem_append, List.mem_singleton] at hz
      rcases hz with hz | rfl
      · exact hown.size _ hz
      · exact hy
/-- The best member so far. -/
def stp (K : Int) (b : Nm × Bool) (x : Nm) : Nm × Bool := if (valK K x && (!b.2 || bef x b.1)) = true then (x, true) else b
def bst (K : Int) (l : List Nm) : Nm × Bool := l.foldl (stp K) ([], false)
theorem bst_step (K : Int) (l : List Nm) (i : Nat) (h : i < l.length) : bst K (l.take (i + 1)) = stp K (bst K (l.take i)) l[i] := by
  unfold bst
  rw [List.take_succ_eq_append_getElem h, List.foldl_append]
  rfl
end Go.Proofs.Ytejiagmfinhjbaa
