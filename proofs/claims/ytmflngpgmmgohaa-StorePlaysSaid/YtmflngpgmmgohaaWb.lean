/-
  Walks: slices of strings of the call's own; the reference's Sorted.
-/
import Derived.Test.YtmflngpgmmgohaaUa
import Derived.Test.YtmflngpgmmgohaaWa
import Derived.Test.YtmflngpgmmgohaaGuard
import Derived.Lib.OwnBridge
import Derived.Laws.AppendOwnNone
namespace Go.Proofs.Ytmflngpgmmgohaa
open Go.RowKit Go.Names Go.Sort

theorem list_eq (s : ByteArray) : s.data.toList = s.toList := (ByteArray.toList_eq s).symm
def toB (l : Nm) : ByteArray := ⟨l.toArray⟩
theorem toB_list (l : Nm) : (toB l).data.toList = l := rfl
theorem toB_toList (l : Nm) : (toB l).toList = l := (list_eq _).symm.trans rfl
theorem toB_inj (s : ByteArray) : toB s.data.toList = s := rfl
/-- The cells of a slice are the strings of L. -/
structure SL (w : World) (p : Option Addr) (L : List Nm) : Prop where
  cell : ∀ i (h : i < L.length), ∃ a o, p = some ⟨a, o, none⟩ ∧ a < w.heap.size ∧ w.cell? ⟨a, o + i, none⟩ = some (.string (toB L[i]))
  size : ∀ x ∈ L, x.length ≤ maxLen
theorem SL.nil (w : World) (p : Option Addr) : SL w p [] := ⟨fun i h => absurd h (by simp), fun x h => absurd h (by simp)⟩
theorem SL.below {w wr : World} {p : Option Addr} {L : List Nm} (h : SL w p L) (hb : Below w.heap.size w wr) : SL wr p L := by
  refine ⟨fun i hi => ?_, h.size⟩
  obtain ⟨a, o, h1, h2, h3⟩ := h.cell i hi
  exact ⟨a, o, h1, Nat.lt_of_lt_of_le h2 hb.size, (hb.cell h2).trans h3⟩
theorem SL.take {w : World} {p : Option Addr} {L : List Nm} (h : SL w p L) (n : Nat) : SL w p (L.take n) := by
  refine ⟨fun i hi => ?_, fun x hx => h.size x (List.mem_of_mem_take hx)⟩
  obtain ⟨a, o, h1, h2, h3⟩ := h.cell i (by simp at hi; omega)
  exact ⟨a, o, h1, h2, by rw [List.getElem_take]; exact h3⟩

theorem bl_iff (a : Nm) : ∀ b, Op.bytesLess a b = true ↔ a < b := by
  induction a with
  | nil => intro b; cases b <;> simp [Op.bytesLess]
  | cons x r ih =>
    intro b
    cases b with
    | nil => simp [Op.bytesLess]
    | cons y q =>
      simp only [Op.bytesLess, Bool.or_eq_true, Bool.and_eq_true, decide_eq_true_eq, beq_iff_eq]
      rw [List.cons_lt_cons_iff, ih]
theorem bl_dec (a b : Nm) : Op.bytesLess a b = decide (a < b) := by
  cases h : Op.bytesLess a b with
  | true => rw [eq_comm, decide_eq_true_eq]; exact (bl_iff a b).1 h
  | false => rw [eq_comm, decide_eq_false_iff_not]; intro h2; rw [(bl_iff a b).2 h2] at h; cases h

/-- A row of names of the call's own. -/
structure OS (B : Nat) (w : World) (v : Value) (L : List Nm) : Prop where
  row : w.ownsRow B 9 1 v L.length (L.map encStr)
  size : ∀ x ∈ L, x.length ≤ maxLen
theorem OS.nil (B : Nat) (w : World) : OS B w (.slice none 0 0) [] := ⟨World.ownsRow_nil w B 9 1, by simp⟩
theorem OS.cut {B : Nat} {w : World} {v : Value} {L : List Nm} (h : OS B w v L) : ∃ p cap, v = .slice p L.length cap ∧ L.length ≤ cap := by
  rcases h.row.2 with ⟨h1, h2⟩ | ⟨g, cap, cur, h1, _, _, h2, _⟩
  · exact ⟨none, 0, by rw [h1, h2], by omega⟩
  · exact ⟨_, cap, h1, h2⟩
theorem OS.sl {B : Nat} {w : World} {p : Option Addr} {n cap : Nat} {L : List Nm} (h : OS B w (.slice p n cap) L) : SL w p L := by
  refine ⟨fun i hi => ?_, h.size⟩
  rcases h.row.2 with ⟨h1, h2⟩ | ⟨g, cap', cur, h1, h2, h3, _⟩
  · omega
  · injection h1 with h1 h5 h6
    subst h1 h5 h6
    refine ⟨g, 0, rfl, (h.row.lt g rfl).2, ?_⟩
    have := h.row.cells (g := g) rfl i (encStr L[i]) (by rw [List.getElem?_map, List.getElem?_eq_getElem hi]; rfl)
    rw [Addr.add_lit] at this
    exact this
theorem OS.below {B : Nat} {w w' : World} {v : Value} {L : List Nm} (h : OS B w v L) (hb : Below w.heap.size w w') : OS B w' v L :=
  ⟨h.row.kept (row := none) ⟨hb.os, hb.tape, hb.output, hb.size, fun k hk _ => hb.block k hk⟩ (by cases v.ownBlock <;> simp), h.size⟩
theorem OS.base {B B' : Nat} {w : World} {v : Value} {L : List Nm} (h : OS B w v L) (hB : B' ≤ B) : OS B' w v L := ⟨ownsRow_lower h.row hB, h.size⟩

theorem str_infoW : (Try.prog.info? 9).map (fun i => (i.zero, i.size, i.bytes)) = some (some (.string ByteArray.empty), 1, 16) := by kernel_rfl
theorem run_append_none0 {P : Program} {w : World} (base : Nat) (t ty e : TypeId) (i : TypeInfo) (size : Nat) (ht : P.underlying t = some (.slice e)) (hi : P.info? e = some i)
    (v : Value) (n c : Nat) (xs : List Value) (hown : w.ownsRow base e size v n xs) :
    (Builtin.append_ #[t, t] ty #[v, .slice none 0 c]).run P w = .ok v w := by
  rcases hown.2 with ⟨rfl, rfl⟩ | ⟨g, cap, cur, rfl, _, _, hnc, _⟩
  · simp [Builtin.append_, run_underlying ht, sizeOf, typeInfo, hi, Builtin.lenOf, Builtin.firstCells]
  · simp [Builtin.append_, run_underlying ht, sizeOf, typeInfo, hi, Builtin.lenOf, Builtin.firstCells, hnc, storeCells]
theorem wpList_append_none0 {P : Program} {w : World} {ops : Array Oper} {rest : List Oper} {o : Oper} {a : Act} {Q : Exit → Act → World → Prop} (hgd : o.guard = none) (s x : Operand) (t : TypeId)
    (ho : o.op = .call { callee := .builtin .append, args := #[s, x], argTypes := #[t, t] })
    (base : Nat) (e : TypeId) (i : TypeInfo) (size : Nat) (ht : P.underlying t = some (.slice e)) (hi : P.info? e = some i)
    (v : Value) (n c : Nat) (xs : List Value) (hs : a.eval s = v) (hown : w.ownsRow base e size v n xs) (hx : a.eval x = .slice none 0 c)
    (h : wpList P ops Q rest (a.put o.dst v) w) : wpList P ops Q (o :: rest) a w := by
  refine wpList_plain hgd fun K hK => ?_
  have hrun := run_append_none0 (P := P) (w := w) base t o.type e i size ht hi v n c xs hown
  unfold Oper.wp
  simp [execOp, ho, resolve, invoke, builtin, hs, hx, hrun, Result.andThen]
  exact hK _ _ h
/-- A name behind the row: it lies in the block just laid. -/
theorem wpList_append_name {ops : Array Oper} {rest : List Oper} {o : Oper} {a : Act} {Q : Exit → Act → World → Prop} (hgd : o.guard = none) (s x : Operand)
    (ho : o.op = .call { callee := .builtin .append, args := #[s, x], argTypes := #[53, 53] })
    (B : Nat) (w0 : World) (hB : B ≤ w0.heap.size) (y : Nm) (hy : y.length ≤ maxLen) (v : Value) (L : List Nm) (hs : a.eval s = v) (hown : OS B w0 v L) (hn : L.length ≤ 1000000)
    (hx : a.eval x = .slice (some ⟨w0.heap.size, 0, none⟩) 1 1)
    (h : ∀ v' w', OS B w' v' (L ++ [y]) → (∀ w, Below B w w0 → Below B w w') → wpList Try.prog ops Q rest (a.put o.dst v') w') :
    wpList Try.prog ops Q (o :: rest) a (w0.alloc (.cells #[.string (toB y)] 9)) := by
  obtain ⟨i0, hi0, hz0, hz1, hz2⟩ := info_parts str_infoW
  refine wpList_append_own _ hgd s x 53 ho B 9 i0 _ 1 16 (by kernel_rfl) hi0 hz0 hz1 hz2 rfl (by decide) v L.length _ hs (hown.row.alloc _) ⟨w0.heap.size, 0, none⟩ 1 1 [encStr y] hx rfl ?_ ?_ (by unfold maxLen; omega) (by omega) (by simp; omega) ?_
  · intro j u hj
    match j, hj with
    | 0, hj => simp at hj; subst hj; simp [Addr.add, toB]
    | (j + 1), hj => simp at hj
  · intro u hu; simp at hu; subst hu; rfl
  · intro v' w' ho' hg' _
    refine h v' w' ⟨?_, fun z hz => ?_⟩ (fun w hw => (hw.alloc hB _).grown hg' (by simp; omega) (fun q hq => (hown.row.lt q hq).1))
    · rw [List.length_append, List.map_append]; exact ho'
    · rw [List.mem_append, List.mem_singleton] at hz
      rcases hz with hz | rfl
      · exact hown.size _ hz
      · exact hy
/-- Names behind the row. -/
theorem wpList_append_names {ops : Array Oper} {rest : List Oper} {o : Oper} {a : Act} {Q : Exit → Act → World → Prop} (hgd : o.guard = none) (s x : Operand)
    (ho : o.op = .call { callee := .builtin .append, args := #[s, x], argTypes := #[53, 53] })
    (B : Nat) (w0 : World) (hB : B ≤ w0.heap.size) (v : Value) (L M : List Nm) (hs : a.eval s = v) (hown : OS B w0 v L) (hn : L.length ≤ 1000000) (p : Option Addr) (cap : Nat) (hM : SL w0 p M) (hm : M.length ≤ 1000000)
    (hx : a.eval x = .slice p M.length cap)
    (h : ∀ v' w', OS B w' v' (L ++ M) → (∀ w, Below B w w0 → Below B w w') → wpList Try.prog ops Q rest (a.put o.dst v') w') :
    wpList Try.prog ops Q (o :: rest) a w0 := by
  obtain ⟨i0, hi0, hz0, hz1, hz2⟩ := info_parts str_infoW
  cases p with
  | none =>
    have hM0 : M = [] := by
      cases M with
      | nil => rfl
      | cons y r => obtain ⟨_, _, h1, _⟩ := hM.cell 0 (by simp); cases h1
    subst hM0
    refine wpList_append_none0 hgd s x 53 ho B 9 i0 1 (by kernel_rfl) hi0 v L.length cap _ hs hown.row hx ?_
    exact h v w0 (by rw [List.append_nil]; exact hown) (fun w hw => hw)
  | some ad =>
    have hcell : ∀ j u, (M.map encStr)[j]? = some u → w0.cell? (ad.add j) = some u := by
      intro j u hj
      rw [List.getElem?_map] at hj
      by_cases hjl : j < M.length
      · rw [List.getElem?_eq_getElem hjl] at hj
        cases hj
        obtain ⟨a', o', h1, h2, h3⟩ := hM.cell j hjl
        cases h1
        rw [Addr.add_lit]
        exact h3
      · rw [List.getElem?_eq_none (by omega)] at hj; cases hj
    refine wpList_append_own _ hgd s x 53 ho B 9 i0 _ 1 16 (by kernel_rfl) hi0 hz0 hz1 hz2 rfl (by decide) v L.length _ hs hown.row ad M.length cap (M.map encStr) hx (by simp) hcell ?_ (by unfold maxLen; omega) (by omega) hB ?_
    · intro u hu
      obtain ⟨y, _, rfl⟩ := List.mem_map.1 hu
      rfl
    · intro v' w' ho' hg' _
      refine h v' w' ⟨?_, fun z hz => ?_⟩ (fun w hw => hw.grown hg' hB (fun q hq => (hown.row.lt q hq).1))
      · rw [List.length_append, List.map_append]; exact ho'
      · rw [List.mem_append] at hz
        exact hz.elim (hown.size _) (hM.size _)
theorem below_alloc {w a : World} (h : Below w.heap.size w a) (o : Obj) : Below w.heap.size w (a.alloc o) := h.alloc h.size o

theorem OS.drew {B : Nat} {w : World} {v : Value} {L : List Nm} (h : OS B w v L) : OS B w.drew v L := ⟨h.row, h.size⟩
theorem cell_keep {B n o : Nat} {w w' : World} {v : Value} (h : Below B w w') (hn : n < B) (hv : w.cell? ⟨n, o, none⟩ = some v) : w'.cell? ⟨n, o, none⟩ = some v := (h.cell (p := ⟨n, o, none⟩) hn).trans hv
theorem ext_lt {B : Nat} {w w' : World} (h : Below B w w') : LexK.Ext (fun b => b < B) w w' := ⟨h.size, fun b _ hk => h.block b hk⟩
structure OJ (w : World) (B : Nat) (v : Value) (L : List Nm) (wr : World) : Prop where
  own : OS B wr v L
  below : Below B w wr
theorem beq_dec (x y : Nm) : (x == y) = decide (x = y) := by rw [Bool.eq_iff_iff]; simp
theorem wpList_append_name2 {ops : Array Oper} {rest : List Oper} {o : Oper} {a : Act} {Q : Exit → Act → World → Prop} (hgd : o.guard = none) (s x : Operand)
    (ho : o.op = .call { callee := .builtin .append, args := #[s, x], argTypes := #[53, 53] })
    (B : Nat) (w0 : World) (hB : B ≤ w0.heap.size) (y : Nm) (hy : y.length ≤ maxLen) (v : Value) (L : List Nm) (hs : a.eval s = v) (hown : OS B w0 v L) (hn : L.length ≤ 1000000)
    (hx : a.eval x = .slice (some ⟨w0.heap.size, 0, none⟩) 1 1)
    (h : ∀ v' w', OS B w' v' (L ++ [y]) → Below B (w0.alloc (.cells #[.string (toB y)] 9)) w' → w0.heap.size ≤ w'.heap.size → wpList Try.prog ops Q rest (a.put o.dst v') w') :
    wpList Try.prog ops Q (o :: rest) a (w0.alloc (.cells #[.string (toB y)] 9)) := by
  obtain ⟨i0, hi0, hz0, hz1, hz2⟩ := info_parts str_infoW
  refine wpList_append_own _ hgd s x 53 ho B 9 i0 _ 1 16 (by kernel_rfl) hi0 hz0 hz1 hz2 rfl (by decide) v L.length _ hs (hown.row.alloc _) ⟨w0.heap.size, 0, none⟩ 1 1 [encStr y] hx rfl ?_ ?_ (by unfold maxLen; omega) (by omega) (by simp; omega) ?_
  · intro j u hj
    match j, hj with
    | 0, hj => simp at hj; subst hj; simp [Addr.add, toB]
    | (j + 1), hj => simp at hj
  · intro u hu; simp at hu; subst hu; rfl
  · intro v' w' ho' hg' _
    have hb : Below B (w0.alloc (.cells #[.string (toB y)] 9)) w' := (Below.refl _ _).grown hg' (by simp; omega) (fun q hq => (hown.row.lt q hq).1)
    refine h v' w' ⟨?_, fun z hz => ?_⟩ hb (Nat.le_trans (by simp) hb.size)
    · rw [List.length_append, List.map_append]; exact ho'
    · rw [List.mem_append, List.mem_singleton] at hz
      rcases hz with hz | rfl
      · exact hown.size _ hz
      · exact hy
theorem SL.drop {w : World} {a o : Nat} {L : List Nm} (h : SL w (some ⟨a, o, none⟩) L) (k : Nat) : SL w (some ⟨a, o + k, none⟩) (L.drop k) := by
  refine ⟨fun i hi => ?_, fun x hx => h.size x (List.mem_of_mem_drop hx)⟩
  have hi' : k + i < L.length := by rw [List.length_drop] at hi; omega
  obtain ⟨a', o', h1, h2, h3⟩ := h.cell (k + i) hi'
  cases h1
  refine ⟨a, o + k, rfl, h2, ?_⟩
  rw [List.getElem_drop, Nat.add_assoc]
  exact h3
theorem nrm_nil : nrm [] = [] := List.length_eq_zero_iff.1 (Nat.le_zero.1 (nrm_len []))
theorem wpList_append_namesN {ops : Array Oper} {rest : List Oper} {o : Oper} {a : Act} {Q : Exit → Act → World → Prop} (hgd : o.guard = none) (s x : Operand)
    (ho : o.op = .call { callee := .builtin .append, args := #[s, x], argTypes := #[53, 53] })
    (B : Nat) (w0 : World) (hB : B ≤ w0.heap.size) (v : Value) (L M : List Nm) (hs : a.eval s = v) (hown : OS B w0 v L) (hn : L.length ≤ 1000000) (p : Option Addr) (n cap : Nat) (hM : SL w0 p M) (hm : M.length ≤ 1000000) (hnl : M.length = n)
    (hx : a.eval x = .slice p n cap)
    (h : ∀ v' w', OS B w' v' (L ++ M) → (∀ w, Below B w w0 → Below B w w') → wpList Try.prog ops Q rest (a.put o.dst v') w') :
    wpList Try.prog ops Q (o :: rest) a w0 := by
  subst hnl
  exact wpList_append_names hgd s x ho B w0 hB v L M hs hown hn p cap hM hm hx h
/-- A name put in its place. -/
theorem put_nrm (L : List Nm) (j : Nat) (h : j < L.length) (k : Nat) (hk : k ≤ (nrm (L.take j)).length) (h1 : ∀ t (ht : t < (nrm (L.take j)).length), t < k → (nrm (L.take j))[t] < L[j]) (h2 : ∀ (hk : k < (nrm (L.take j)).length), L[j] < (nrm (L.take j))[k]) :
    (nrm (L.take j)).take k ++ [L[j]] ++ (nrm (L.take j)).drop k = nrm (L.take (j + 1)) := by
  refine nrm_of ?_ fun x => ?_
  · have hA := nrm_asc (L.take j)
    generalize nrm (L.take j) = O at *
    unfold Asc at *
    have hA2 := hA
    rw [← List.take_append_drop k O, List.pairwise_append] at hA2
    rw [List.append_assoc, List.pairwise_append]
    have hd : ∀ y ∈ O.drop k, L[j] < y := by
      intro y hy
      obtain ⟨i, hi, rfl⟩ := List.getElem_of_mem hy
      rw [List.getElem_drop]
      have hkl : k < O.length := by rw [List.length_drop] at hi; omega
      have h3 := h2 hkl
      by_cases hi0 : i = 0
      · subst hi0; exact h3
      · rw [List.pairwise_iff_getElem] at hA
        exact lt_tr h3 (hA k (k + i) hkl (by rw [List.length_drop] at hi; omega) (by omega))
    have ht : ∀ y ∈ O.take k, y < L[j] := by
      intro y hy
      obtain ⟨i, hi, rfl⟩ := List.getElem_of_mem hy
      rw [List.getElem_take]
      exact h1 i (by simp at hi; omega) (by simp at hi; omega)
    refine ⟨hA2.1, ?_, fun x hx y hy => ?_⟩
    · rw [List.singleton_append, List.pairwise_cons]
      exact ⟨hd, hA2.2.1⟩
    · rw [List.singleton_append, List.mem_cons] at hy
      rcases hy with rfl | hy
      · exact ht x hx
      · exact lt_tr (ht x hx) (hd y hy)
  · rw [List.take_succ_eq_append_getElem h, List.mem_append, List.mem_append, List.mem_append]
    have hm := nrm_mem (L.take j) x
    rw [← hm]
    have : x ∈ nrm (L.take j) ↔ x ∈ (nrm (L.take j)).take k ∨ x ∈ (nrm (L.take j)).drop k := by
      rw [← List.mem_append, List.take_append_drop]
    rw [this]
    constructor
    · rintro ((h | h) | h)
      · exact .inl (.inl h)
      · exact .inr h
      · exact .inl (.inr h)
    · rintro ((h | h) | h)
      · exact .inl (.inl h)
      · exact .inr h
      · exact .inl (.inr h)
theorem keep_nrm (L : List Nm) (j : Nat) (h : j < L.length) (hm : L[j] ∈ nrm (L.take j)) : nrm (L.take j) = nrm (L.take (j + 1)) := by
  refine nrm_congr fun x => ?_
  rw [nrm_mem] at hm
  rw [List.take_succ_eq_append_getElem h, List.mem_append, List.mem_singleton]
  exact ⟨.inl, fun h => h.elim id (fun e => e ▸ hm)⟩
set_option maxRecDepth 100000 in
set_option maxHeartbeats 32000000 in
theorem sorted_any (p : Option Addr) (cap : Nat) (L : List Nm) (hl : L.length ≤ 100000) (w : World) (hS : SL w p L) :
    Calls Try.prog 87 #[.slice p L.length cap] w fun e w' => ∃ v, e = .returned v ∧ OS w.heap.size w' v (nrm L) ∧ Below w.heap.size w w' := by
  have HS := Lib.hid hS; clear hS
  go_enter Try.func87, Try.ntmps87
  go_wp2
  go_loopw [3, 4] (fun v i wr => ∃ j : Nat, j ≤ L.length ∧ i = .int .i64 j ∧ OJ w w.heap.size v (nrm (L.take j)) wr) (fun _ i _ => L.length - (intOf i).toNat)
  case atStart => exact ⟨0, by omega, rfl, by rw [List.take_zero, nrm_nil]; exact ⟨OS.nil _ _, Below.refl _ _⟩⟩
  case round =>
    obtain ⟨j, hj, rfl, hoi⟩ := hrel
    have Hoi := Lib.hid hoi; clear hoi
    by_cases hlt : j < L.length
    · obtain ⟨a, o, rfl, ha, c0⟩ := HS.out.cell j hlt
      have hkeep := keep_nrm L j hlt
      have hput := put_nrm L j hlt
      have Hkeep := Lib.hid hkeep; have Hput := Lib.hid hput
      have Hsz := Lib.hid (HS.out.size L[j] (List.getElem_mem hlt))
      have hol : (nrm (L.take j)).length ≤ 100000 := Nat.le_trans (nrm_len _) (by simp; omega)
      have hasc := nrm_asc (L.take j)
      have HA := Lib.hid hasc
      have HO := Lib.hid Hoi.out.own; have HB := Lib.hid Hoi.out.below
      clear hkeep hput hasc Hoi
      generalize hN : nrm (L.take (j + 1)) = N at *
      have HN := Lib.hid hN; clear hN
      generalize nrm (L.take j) = O at *
      generalize L[j] = x at *
      have Hax := Lib.hid ha; clear ha
      obtain ⟨q, cap1, rfl, hcap1⟩ := HO.out.cut
      have HSO := Lib.hid HO.out.sl
      go_wp2
      go_loopw [5] (fun i wi => ∃ k : Nat, k ≤ O.length ∧ i = .int .i64 k ∧ (∀ t (ht : t < O.length), t < k → O[t] < x) ∧ OJ w w.heap.size (.slice q O.length cap1) O wi) (fun i _ => O.length - (intOf i).toNat)
      case atStart => exact ⟨0, by omega, rfl, fun t _ h => by omega, HO.out, HB.out⟩
      case round =>
        obtain ⟨k, hk, rfl, hls, hoi⟩ := hrel
        have Hls := Lib.hid hls; have Hoi := Lib.hid hoi
        clear hls hoi
        have c1 := cell_keep Hoi.out.below Hax.out c0
        by_cases hkl : k < O.length
        · obtain ⟨g, og, rfl, hg, c2⟩ := Hoi.out.own.sl.cell k hkl
          have hstep : O[k] < x → ∀ t (ht : t < O.length), t < k + 1 → O[t] < x := fun h t ht htk => by
            by_cases he : t = k
            · subst he; exact h
            · exact Hls.out t ht (by omega)
          have Hstep := Lib.hid hstep; clear hstep
          have hin : O[k] = x → x ∈ O := fun h => h ▸ List.getElem_mem hkl
          have Hin := Lib.hid hin; clear hin
          have hgt : ¬ O[k] < x → ¬ O[k] = x → x < O[k] := fun h1 h2 => lt_of_le_ne (le_of_not h1) (fun e => h2 e.symm)
          have Hput2 := Lib.hid (show x < O[k] → O.take k ++ [x] ++ O.drop k = N from fun h => Hput.out k hk Hls.out (fun _ => h))
          have Hgt := Lib.hid hgt; clear hgt hg
          have hb1 : Op.bytesLess (toB O[k]).toList (toB x).toList = decide (O[k] < x) := by rw [toB_toList, toB_toList, bl_dec]
          have hb2 : ((toB O[k]).toList == (toB x).toList) = decide (O[k] = x) := by rw [toB_toList, toB_toList, beq_dec]
          generalize O[k] = y at *
          generalize hsy : toB y = sy at *
          generalize hsx : toB x = sx at *
          clear hsy
          have Hsx := Lib.hid hsx; clear hsx
          cases hd : decide (y < x) with
          | true =>
            rw [hd] at hb1
            clear hb2
            have Hd := Lib.hid (show y < x by simpa using hd)
            clear hd
            go_wp2_with (first
              | ((with_reducible refine Lex.at_region ?_); with_reducible refine Lex.wp_region_lex (by kernel_rfl) (by decide +kernel) ?_)
              | ((with_reducible refine Lex.at_fin ?_); with_reducible refine Lex.fin_on (by kernel_rfl) ?_))
            exact ⟨⟨k + 1, by omega, by go_num, Hstep.out Hd.out, OS.drew Hoi.out.own, Hoi.out.below.drew⟩, by simp [intOf]; omega⟩
          | false =>
            rw [hd] at hb1
            have Hd := Lib.hid (show ¬ y < x by simpa using hd)
            clear hd
            cases he : decide (y = x) with
            | true =>
              rw [he] at hb2
              have He := Lib.hid (show y = x by simpa using he)
              clear he
              go_wp2_with (first
                | ((with_reducible refine Lex.at_region ?_); with_reducible refine Lex.wp_region_lex (by kernel_rfl) (by decide +kernel) ?_)
                | ((with_reducible refine Lex.at_fin ?_); with_reducible refine Lex.fin_on (by kernel_rfl) ?_))
              exact ⟨⟨j + 1, by omega, by go_num, by rw [HN.out, ← Hkeep.out (Hin.out He.out)]; exact ⟨OS.drew (OS.drew Hoi.out.own), Hoi.out.below.drew.drew⟩⟩, by simp [intOf]; omega⟩
            | false =>
              rw [he] at hb2
              have He := Lib.hid (show ¬ y = x by simpa using he)
              clear he
              go_upto_region 9 with (first
                | ((with_reducible refine Lex.at_region ?_); with_reducible refine Lex.wp_region_lex (by kernel_rfl) (by decide +kernel) ?_)
                | ((with_reducible refine Lex.at_fin ?_); with_reducible refine Lex.fin_on (by kernel_rfl) ?_))
              have hres := Hput2.out (Hgt.out Hd.out He.out)
              clear Hput Hput2 Hgt Hin Hstep Hd He hb1 hb2 Hls
              obtain ⟨T, hT, hTk⟩ : ∃ T, T = O.take (k) ∧ T.length = k := ⟨_, rfl, by rw [List.length_take]; omega⟩
              obtain ⟨D, hD⟩ : ∃ D, D = O.drop (k) := ⟨_, rfl⟩
              have hDl : O.length - k = D.length := by rw [hD, List.length_drop]
              rw [← hT, ← hD] at hres
              have Hres := Lib.hid hres; clear hres
              have HSD := Lib.hid (show ∀ w : World, SL w (some ⟨g, og, none⟩) O → SL w (some ⟨g, og + k, none⟩) D from fun w h => hD ▸ h.drop k)
              have HST := Lib.hid (show ∀ w : World, SL w (some ⟨g, og, none⟩) O → SL w (some ⟨g, og, none⟩) T from fun w h => hT ▸ h.take _)
              have Ho5 := Lib.hid (OS.drew (OS.drew Hoi.out.own)); have Hb5 := Lib.hid Hoi.out.below.drew.drew
              have c5 : wr.drew.drew.cell? ⟨a, o + j, none⟩ = some (.string sx) := c1
              have hTl : T.length ≤ O.length := by omega
              have Hdl := Lib.hid (show D.length ≤ 1000000 by omega)
              clear Hoi c1 hT hD c0
              generalize wr.drew.drew = wd at *
              have Hsl5 := Lib.hid (Ho5.out.sl)
              have hsx := Hsx.out
              subst hsx
              have z5 := Lib.hid (show wd.cell? ⟨a, o + j, none⟩ = some (.string (toB x)) from c5)
              have Htk := Lib.hid (show T.length = k from hTk)
              have Htl := Lib.hid (show ([] ++ T).length ≤ 1000000 by rw [List.nil_append]; omega)
              have Htl2 := Lib.hid (show (([] ++ T) ++ [x]).length ≤ 1000000 by simp; omega)
              have HDl := Lib.hid (show D.length = O.length - k by omega)
              have HT2 := Lib.hid (show T.length ≤ 1000000 by omega)
              clear hTk hDl
              go_wp2_with (first
                | ((with_reducible refine Lex.at_finK ?_); refine LexK.finE_on (by kernel_rfl) (by repeat first | exact LexK.finL_nil | refine LexK.finL_none rfl ?_ | refine LexK.finL_skip (by decide +kernel) ?_ | refine LexK.finL_take rfl Hax.out z3.out ?_) ?_)
                | ((with_reducible refine Lex.at_region ?_); refine LexK.wp_region_lexE (fun b => b < w.heap.size) (by kernel_rfl) (by decide +kernel) ?_; have y3 : w3.drew.cell? ⟨a, o + j, none⟩ = some (.string (toB x)) := z3p.out; have z3 := Lib.hid y3)
                | ((with_reducible refine Lex.at_wpX ?_); with_reducible refine LexK.wpX_plain (by decide +kernel) ?_)
                | ((with_reducible refine Lex.at_wpX ?_); with_reducible refine LexK.wpX_call ?_)
                | ((with_reducible refine Lex.at_wpX ?_); with_reducible refine LexK.wpX_nil ?_)
                | ((with_reducible refine Lex.at_ext ?_); first
                    | with_reducible refine LexK.ext_on hex5.out ?_
                    | refine LexK.ext_on hex4.out ?_
                    | refine LexK.ext_on (LexK.Ext.alloc _ _) ?_)
                | (at_builtin; first
                    | (refine wpList_append_namesN rfl (.const (.slice none 0 0)) (.tmp 47) rfl wd.heap.size wd (Nat.le_refl _) (.slice none 0 0) [] T rfl (OS.nil _ _) (by decide) (some ⟨g, og, none⟩) k _ (HST.out _ Hsl5.out) HT2.out Htk.out rfl ?_; intro v3 w3 ho3 hb3; have Ho3 := Lib.hid (OS.drew ho3); have Hb3 := Lib.hid (hb3 _ (Below.refl _ _)); have z3p := Lib.hid ((Hb3.out.cell (p := ⟨a, o + j, none⟩) (Nat.lt_of_lt_of_le Hax.out Hb5.out.size)).trans z5.out); clear ho3 hb3)
                    | (refine wpList_append_name2 rfl (.tmp 49) (.tmp 54) rfl wd.heap.size w3.drew Hb3.out.size x Hsz.out _ _ rfl Ho3.out Htl.out rfl ?_; intro v4 w4 ho4 hb4 hl4; have Ho4 := Lib.hid ho4; have Hb4 := Lib.hid ((below_alloc Hb3.out.drew _).trans hb4); have hex4 := Lib.hid (show LexK.Ext (fun b => b < w.heap.size) (w3.drew.alloc (.cells #[.string (toB x)] 9)) w4 from ext_lt (hb4.mono Hb5.out.size)); have HSd4 := Lib.hid (HSD.out _ (Hsl5.out.below Hb4.out)); clear ho4 hb4 hl4)
                    | (refine wpList_append_namesN rfl (.tmp 55) (.tmp 58) rfl wd.heap.size w4 Hb4.out.size _ _ D rfl Ho4.out Htl2.out (some ⟨g, og + k, none⟩) (O.length - k) _ HSd4.out Hdl.out HDl.out rfl ?_; intro v5 w5 ho5 hb5; have Ho6 := Lib.hid ho5; have Hb6 := Lib.hid (hb5 _ Hb4.out); have hex5 := Lib.hid (show LexK.Ext (fun b => b < w.heap.size) w4 w5 from ext_lt ((hb5 _ (Below.refl _ _)).mono Hb5.out.size)); clear ho5 hb5)))
              exact ⟨⟨j + 1, by omega, by go_num, by rw [HN.out, ← Hres.out]; exact ⟨OS.base Ho6.out Hb5.out.size, Hb5.out.trans (Hb6.out.mono Hb5.out.size)⟩⟩, by simp [intOf]; omega⟩
        · obtain rfl : k = O.length := by omega
          have hres := Hput.out O.length (Nat.le_refl _) Hls.out (fun h => absurd h (Nat.lt_irrefl _))
          generalize hsx : toB x = sx at *
          have Hsx := Lib.hid hsx; clear hsx
          go_upto_region 9 with (first
            | ((with_reducible refine Lex.at_region ?_); with_reducible refine Lex.wp_region_lex (by kernel_rfl) (by decide +kernel) ?_)
            | ((with_reducible refine Lex.at_fin ?_); with_reducible refine Lex.fin_on (by kernel_rfl) ?_))
          clear Hput Hls
          obtain ⟨T, hT, hTk⟩ : ∃ T, T = O.take (O.length) ∧ T.length = O.length := ⟨_, rfl, by rw [List.length_take]; omega⟩
          obtain ⟨D, hD⟩ : ∃ D, D = O.drop (O.length) := ⟨_, rfl⟩
          have hDl : O.length - O.length = D.length := by rw [hD, List.length_drop]
          rw [← hT, ← hD] at hres
          have Hres := Lib.hid hres; clear hres
          have HSD := Lib.hid (show ∀ (w : World) (p : Option Addr), SL w p D from fun w p => by rw [hD, List.drop_length]; exact SL.nil w p)
          have HST := Lib.hid (show ∀ w : World, SL w q O → SL w q T from fun w h => hT ▸ h.take _)
          have Ho5 := Lib.hid (OS.drew (OS.drew Hoi.out.own)); have Hb5 := Lib.hid Hoi.out.below.drew.drew
          have c5 : wr.drew.drew.cell? ⟨a, o + j, none⟩ = some (.string sx) := c1
          have hTl : T.length ≤ O.length := by omega
          have Hdl := Lib.hid (show D.length ≤ 1000000 by omega)
          clear Hoi c1 hT hD c0
          generalize wr.drew.drew = wd at *
          have Hsl5 := Lib.hid (Ho5.out.sl)
          have hsx := Hsx.out
          subst hsx
          have z5 := Lib.hid (show wd.cell? ⟨a, o + j, none⟩ = some (.string (toB x)) from c5)
          have Htk := Lib.hid (show T.length = O.length from hTk)
          have Htl := Lib.hid (show ([] ++ T).length ≤ 1000000 by rw [List.nil_append]; omega)
          have Htl2 := Lib.hid (show (([] ++ T) ++ [x]).length ≤ 1000000 by simp; omega)
          have HDl := Lib.hid (show D.length = 0 by omega)
          have HT2 := Lib.hid (show T.length ≤ 1000000 by omega)
          clear hTk hDl
          go_wp2_with (first
            | ((with_reducible refine Lex.at_finK ?_); refine LexK.finE_on (by kernel_rfl) (by repeat first | exact LexK.finL_nil | refine LexK.finL_none rfl ?_ | refine LexK.finL_skip (by decide +kernel) ?_ | refine LexK.finL_take rfl Hax.out z3.out ?_) ?_)
            | ((with_reducible refine Lex.at_region ?_); refine LexK.wp_region_lexE (fun b => b < w.heap.size) (by kernel_rfl) (by decide +kernel) ?_; have y3 : w3.drew.cell? ⟨a, o + j, none⟩ = some (.string (toB x)) := z3p.out; have z3 := Lib.hid y3)
            | ((with_reducible refine Lex.at_wpX ?_); with_reducible refine LexK.wpX_plain (by decide +kernel) ?_)
            | ((with_reducible refine Lex.at_wpX ?_); with_reducible refine LexK.wpX_call ?_)
            | ((with_reducible refine Lex.at_wpX ?_); with_reducible refine LexK.wpX_nil ?_)
            | ((with_reducible refine Lex.at_ext ?_); first
                | with_reducible refine LexK.ext_on hex5.out ?_
                | refine LexK.ext_on hex4.out ?_
                | refine LexK.ext_on (LexK.Ext.alloc _ _) ?_)
            | (at_builtin; first
                | (refine wpList_append_namesN rfl (.const (.slice none 0 0)) (.tmp 47) rfl wd.heap.size wd (Nat.le_refl _) (.slice none 0 0) [] T rfl (OS.nil _ _) (by decide) q O.length _ (HST.out _ Hsl5.out) HT2.out Htk.out rfl ?_; intro v3 w3 ho3 hb3; have Ho3 := Lib.hid (OS.drew ho3); have Hb3 := Lib.hid (hb3 _ (Below.refl _ _)); have z3p := Lib.hid ((Hb3.out.cell (p := ⟨a, o + j, none⟩) (Nat.lt_of_lt_of_le Hax.out Hb5.out.size)).trans z5.out); clear ho3 hb3)
                | (refine wpList_append_name2 rfl (.tmp 49) (.tmp 54) rfl wd.heap.size w3.drew Hb3.out.size x Hsz.out _ _ rfl Ho3.out Htl.out rfl ?_; intro v4 w4 ho4 hb4 hl4; have Ho4 := Lib.hid ho4; have Hb4 := Lib.hid ((below_alloc Hb3.out.drew _).trans hb4); have hex4 := Lib.hid (show LexK.Ext (fun b => b < w.heap.size) (w3.drew.alloc (.cells #[.string (toB x)] 9)) w4 from ext_lt (hb4.mono Hb5.out.size)); have HSd4 := Lib.hid (HSD.out w4); clear ho4 hb4 hl4)
                | (refine wpList_append_namesN rfl (.tmp 55) (.tmp 58) rfl wd.heap.size w4 Hb4.out.size _ _ D rfl Ho4.out Htl2.out _ (0) _ (HSd4.out _) Hdl.out HDl.out rfl ?_; intro v5 w5 ho5 hb5; have Ho6 := Lib.hid ho5; have Hb6 := Lib.hid (hb5 _ Hb4.out); have hex5 := Lib.hid (show LexK.Ext (fun b => b < w.heap.size) w4 w5 from ext_lt ((hb5 _ (Below.refl _ _)).mono Hb5.out.size)); clear ho5 hb5)))
          exact ⟨⟨j + 1, by omega, by go_num, by rw [HN.out, ← Hres.out]; exact ⟨OS.base Ho6.out Hb5.out.size, Hb5.out.trans (Hb6.out.mono Hb5.out.size)⟩⟩, by simp [intOf]; omega⟩
    · obtain rfl : j = L.length := by omega
      rw [List.take_length] at Hoi
      go_wp2
      go_ret
      exact ⟨_, rfl, Hoi.out.own, Hoi.out.below⟩
end Go.Proofs.Ytmflngpgmmgohaa
