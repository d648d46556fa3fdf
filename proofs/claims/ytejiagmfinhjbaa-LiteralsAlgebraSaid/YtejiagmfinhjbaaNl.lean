/-
  Slices of names that a call owns: clone, sort, compact, clip, append.
-/
import Derived.Test.YtejiagmfinhjbaaNk
import Derived.Lib.OwnBridge
import Derived.Laws.AppendOwnNone
namespace Go.Proofs.Ytejiagmfinhjbaa
open Go.RowKit Go.Ident Go.Names

/-- A row of names of the call's own. -/
structure OS (B : Nat) (w : World) (v : Value) (L : List Nm) : Prop where
  row : w.ownsRow B 9 1 v L.length (L.map encStr)
  size : ∀ x ∈ L, x.length ≤ maxLen
theorem OS.nil (B : Nat) (w : World) : OS B w (.slice none 0 0) [] := ⟨World.ownsRow_nil w B 9 1, by simp⟩
theorem OS.cut {B : Nat} {w : World} {v : Value} {L : List Nm} (h : OS B w v L) : ∃ p cap, v = .slice p L.length cap ∧ L.length ≤ cap := by
  rcases h.row.2 with ⟨h1, h2⟩ | ⟨g, cap, cur, h1, _, _, h2, _⟩
  · exact ⟨none, 0, by rw [h1, h2], by omega⟩
  · exact ⟨_, cap, h1, h2⟩
theorem OS.sl {B : Nat} {w : World} {p : Option Addr} {n cap : Nat} {L : List Nm} (h : OS B w (.slice p n cap) L) : SL w p L := by
  refine ⟨fun i hi => ?_, h.size⟩
  rcases h.row.2 with ⟨h1, h2⟩ | ⟨g, cap', cur, h1, h2, h3, _⟩
  · omega
  · injection h1 with h1 h5 h6
    subst h1 h5 h6
    refine ⟨g, 0, rfl, (h.row.lt g rfl).2, ?_⟩
    have := h.row.cells (g := g) rfl i (encStr L[i]) (by rw [List.getElem?_map, List.getElem?_eq_getElem hi]; rfl)
    rw [Addr.add_lit] at this
    exact this
theorem OS.below {B : Nat} {w w' : World} {v : Value} {L : List Nm} (h : OS B w v L) (hb : Below w.heap.size w w') : OS B w' v L :=
  ⟨h.row.kept (row := none) ⟨hb.os, hb.tape, hb.output, hb.size, fun k hk _ => hb.block k hk⟩ (by cases v.ownBlock <;> simp), h.size⟩
theorem OS.base {B B' : Nat} {w : World} {v : Value} {L : List Nm} (h : OS B w v L) (hB : B' ≤ B) : OS B' w v L := ⟨World.ownsRow_base h.row hB, h.size⟩

theorem SL.zs {w : World} {a o : Nat} {L : List Nm} (h : SL w (some ⟨a, o, none⟩) L) : ∀ j, j < (L.map toB).length → w.cell? ⟨a, o + j, none⟩ = some (.string ((L.map toB).getD j ByteArray.empty)) := by
  intro j hj
  have hj' : j < L.length := by simpa using hj
  obtain ⟨a', o', h1, h2, h3⟩ := h.cell j hj'
  cases h1
  rw [h3, List.getD_eq_getElem?_getD, List.getElem?_map, List.getElem?_eq_getElem hj']
  rfl
theorem clone_any (p : Option Addr) (cap : Nat) (L : List Nm) (hl : L.length ≤ 1000000) (w : World) (hS : SL w p L) :
    Calls Try.prog 42 #[.slice p L.length cap] w fun e w' => ∃ v, e = .returned v ∧ OS w.heap.size w' v L ∧ Below w.heap.size w w' := by
  by_cases hn : L = []
  · subst hn
    cases p with
    | none =>
      refine (Try.slices_Clone_string_nil 0 cap w).mono ?_
      rintro e w1 ⟨rfl, hw⟩
      rw [hw]
      exact ⟨_, rfl, OS.nil _ _, Below.refl _ _⟩
    | some a =>
      refine (Try.slices_Clone_string_zero a cap w).mono ?_
      rintro e w1 ⟨v, rfl, h1, _, h2⟩
      exact ⟨_, rfl, ⟨h1, by simp⟩, h2⟩
  · have hpos : 0 < L.length := List.length_pos_iff.2 hn
    obtain ⟨a, o, rfl, ha, _⟩ := hS.cell 0 hpos
    refine (Try.slices_Clone_string a o L.length cap (L.map toB) w (by simp) (by omega) hS.zs).mono ?_
    rintro e w1 ⟨v, rfl, h1, _, h2⟩
    refine ⟨_, rfl, ⟨?_, hS.size⟩, h2⟩
    rw [List.take_of_length_le (by simp), List.map_map] at h1
    exact h1
theorem sort_any (B : Nat) (v : Value) (L : List Nm) (hl : L.length ≤ 1000000) (w : World) (hO : OS B w v L) :
    Calls Try.prog 43 #[v] w fun e w' => e = .returned (.tuple #[]) ∧ OS B w' v (srt L) ∧ Below B w w' := by
  by_cases hn : L = []
  · subst hn
    obtain ⟨p, cap, rfl, _⟩ := hO.cut
    refine (Try.slices_Sort_string_none p cap w).mono ?_
    rintro e w1 ⟨rfl, hw⟩
    rw [hw]
    exact ⟨rfl, by simpa [srt] using hO, Below.refl _ _⟩
  · have hv : v ≠ .slice none 0 0 := by
      rintro rfl
      rcases hO.row.2 with ⟨_, h2⟩ | ⟨g, cap, cur, h1, _⟩
      · exact hn (List.length_eq_zero_iff.1 h2)
      · cases h1
    obtain ⟨g, cap, rfl, hb, hg, hnc, hm, hlen, hH⟩ := Lib.holds_of_ownsRow hO.row hv
    refine (Try.slices_Sort_string g 0 cap L w hH hg (by omega)).mono ?_
    rintro e w1 ⟨rfl, n, os, rfl⟩
    have hlen2 : (srt L).length = L.length := (List.mergeSort_perm L _).length_eq
    have h1 := Lib.ownsRow_putRow (q := n) (ys := srt L) (k := L.length) hO.row hlen2 (Nat.le_refl _)
    have h2 : Below B w (Sort.putRow encStr (Sort.ahead w n) g 0 (srt L).toArray) := Lib.below_putRow (Below.refl _ _) hb
    rw [List.take_of_length_le (by omega)] at h1
    have h3 : OS B (Sort.putRow encStr (Sort.ahead w n) g 0 (srt L).toArray) (.slice (some ⟨g, 0, none⟩) L.length cap) (srt L) := ⟨by rw [hlen2]; exact h1, fun x hx => hO.size x ((srt_mem L x).1 hx)⟩
    have h4 : ∀ W : World, Below W.heap.size W (Sort.grow W os) := fun W => ⟨rfl, rfl, rfl, by simp [Sort.grow], fun k hk => by simp [Sort.grow, Array.getElem?_append, hk]⟩
    exact ⟨rfl, h3.below (h4 _), h2.trans ((h4 _).mono (by simp [Sort.ahead]; omega))⟩
theorem compact_any (B : Nat) (v : Value) (L : List Nm) (hl : L.length ≤ 1000000) (w : World) (hO : OS B w v L) :
    Calls Try.prog 45 #[v] w fun e w' => ∃ v', e = .returned v' ∧ OS B w' v' (Lib.compact L) ∧ Below B w w' := by
  by_cases hn : L = []
  · subst hn
    obtain ⟨p, cap, rfl, _⟩ := hO.cut
    refine (Try.slices_Compact_string_empty p cap w).mono ?_
    rintro e w1 ⟨rfl, hw⟩
    rw [hw]
    exact ⟨_, rfl, by simpa [Lib.compact, Lib.compactUpTo] using hO, Below.refl _ _⟩
  · have hv : v ≠ .slice none 0 0 := by
      rintro rfl
      rcases hO.row.2 with ⟨_, h2⟩ | ⟨g, cap, cur, h1, _⟩
      · exact hn (List.length_eq_zero_iff.1 h2)
      · cases h1
    obtain ⟨g, cap, rfl, hb, hg, hnc, hm, hlen, hH⟩ := Lib.holds_of_ownsRow hO.row hv
    refine (Try.slices_Compact_string g 0 cap L w hH (by omega) hnc).mono ?_
    rintro e w1 ⟨rfl, q, rfl⟩
    have hle : (Lib.compact L).length ≤ L.length := by
      unfold Lib.compact Lib.compactUpTo
      rw [List.length_map]
      exact Nat.le_trans (List.length_filter_le _ _) (by simp)
    have h1 := Lib.ownsRow_putRow (q := q) (ys := Lib.compact L ++ List.replicate (L.length - (Lib.compact L).length) []) (k := (Lib.compact L).length) hO.row (by simp; omega) hle
    rw [List.take_left] at h1
    refine ⟨_, rfl, ⟨h1, fun x hx => ?_⟩, Lib.below_putRow (Below.refl _ _) hb⟩
    unfold Lib.compact Lib.compactUpTo at hx
    obtain ⟨i, hi, rfl⟩ := List.mem_map.1 hx
    rw [List.mem_filter, List.mem_range] at hi
    have : L.toArray[i]! = L[i]'(by simpa using hi.1) := by
      have : i < L.length := by simpa using hi.1
      simp [this]
    rw [this]
    exact hO.size _ (List.getElem_mem _)
set_option maxRecDepth 100000 in
theorem clip_any (p : Option Addr) (n cap : Nat) (hn : n ≤ cap) (w : World) : Calls Try.prog 44 #[.slice p n cap] w fun e w' => e = .returned (.slice p n n) ∧ w' = w := by
  go_enter Try.func44, Try.ntmps44
  go_wp2
  go_ret
  exact ⟨rfl, rfl⟩
theorem str_info : (Try.prog.info? 9).map (fun i => (i.zero, i.size, i.bytes)) = some (some (.string ByteArray.empty), 1, 16) := by kernel_rfl
theorem run_append_none0 {P : Program} {w : World} (base : Nat) (t ty e : TypeId) (i : TypeInfo) (size : Nat) (ht : P.underlying t = some (.slice e)) (hi : P.info? e = some i)
    (v : Value) (n c : Nat) (xs : List Value) (hown : w.ownsRow base e size v n xs) :
    (Builtin.append_ #[t, t] ty #[v, .slice none 0 c]).run P w = .ok v w := by
  rcases hown.2 with ⟨rfl, rfl⟩ | ⟨g, cap, cur, rfl, _, _, hnc, _⟩
  · simp [Builtin.append_, run_underlying ht, sizeOf, typeInfo, hi, Builtin.lenOf, Builtin.firstCells]
  · simp [Builtin.append_, run_underlying ht, sizeOf, typeInfo, hi, Builtin.lenOf, Builtin.firstCells, hnc, storeCells]
theorem wpList_append_none0 {P : Program} {w : World} {ops : Array Oper} {rest : List Oper} {o : Oper} {a : Act} {Q : Exit → Act → World → Prop} (hgd : o.guard = none) (s x : Operand) (t : TypeId)
    (ho : o.op = .call { callee := .builtin .append, args := #[s, x], argTypes := #[t, t] })
    (base : Nat) (e : TypeId) (i : TypeInfo) (size : Nat) (ht : P.underlying t = some (.slice e)) (hi : P.info? e = some i)
    (v : Value) (n c : Nat) (xs : List Value) (hs : a.eval s = v) (hown : w.ownsRow base e size v n xs) (hx : a.eval x = .slice none 0 c)
    (h : wpList P ops Q rest (a.put o.dst v) w) : wpList P ops Q (o :: rest) a w := by
  refine wpList_plain hgd fun K hK => ?_
  have hrun := run_append_none0 (P := P) (w := w) base t o.type e i size ht hi v n c xs hown
  unfold Oper.wp
  simp [execOp, ho, resolve, invoke, builtin, hs, hx, hrun, Result.andThen]
  exact hK _ _ h
/-- A name behind the row: it lies in the block just laid. -/
theorem wpList_append_name {ops : Array Oper} {rest : List Oper} {o : Oper} {a : Act} {Q : Exit → Act → World → Prop} (hgd : o.guard = none) (s x : Operand)
    (ho : o.op = .call { callee := .builtin .append, args := #[s, x], argTypes := #[22, 22] })
    (B : Nat) (w0 : World) (hB : B ≤ w0.heap.size) (y : Nm) (hy : y.length ≤ maxLen) (v : Value) (L : List Nm) (hs : a.eval s = v) (hown : OS B w0 v L) (hn : L.length ≤ 1000000)
    (hx : a.eval x = .slice (some ⟨w0.heap.size, 0, none⟩) 1 1)
    (h : ∀ v' w', OS B w' v' (L ++ [y]) → (∀ w, Below B w w0 → Below B w w') → wpList Try.prog ops Q rest (a.put o.dst v') w') :
    wpList Try.prog ops Q (o :: rest) a (w0.alloc (.cells #[.string (toB y)] 9)) := by
  obtain ⟨i0, hi0, hz0, hz1, hz2⟩ := info_parts str_info
  refine wpList_append_own _ hgd s x 22 ho B 9 i0 _ 1 16 (by kernel_rfl) hi0 hz0 hz1 hz2 rfl (by decide) v L.length _ hs (hown.row.alloc _) ⟨w0.heap.size, 0, none⟩ 1 1 [encStr y] hx rfl ?_ ?_ (by unfold maxLen; omega) (by omega) (by simp; omega) ?_
  · intro j u hj
    match j, hj with
    | 0, hj => simp at hj; subst hj; simp [Addr.add, toB]
    | (j + 1), hj => simp at hj
  · intro u hu; simp at hu; subst hu; rfl
  · intro v' w' ho' hg' _
    refine h v' w' ⟨?_, fun z hz => ?_⟩ (fun w hw => (hw.alloc hB _).grown hg' (by simp; omega) (fun q hq => (hown.row.lt q hq).1))
    · rw [List.length_append, List.map_append]; exact ho'
    · rw [List.mem_append, List.mem_singleton] at hz
      rcases hz with hz | rfl
      · exact hown.size _ hz
      · exact hy
/-- Names behind the row. -/
theorem wpList_append_names {ops : Array Oper} {rest : List Oper} {o : Oper} {a : Act} {Q : Exit → Act → World → Prop} (hgd : o.guard = none) (s x : Operand)
    (ho : o.op = .call { callee := .builtin .append, args := #[s, x], argTypes := #[22, 22] })
    (B : Nat) (w0 : World) (hB : B ≤ w0.heap.size) (v : Value) (L M : List Nm) (hs : a.eval s = v) (hown : OS B w0 v L) (hn : L.length ≤ 1000000) (p : Option Addr) (cap : Nat) (hM : SL w0 p M) (hm : M.length ≤ 1000000)
    (hx : a.eval x = .slice p M.length cap)
    (h : ∀ v' w', OS B w' v' (L ++ M) → (∀ w, Below B w w0 → Below B w w') → wpList Try.prog ops Q rest (a.put o.dst v') w') :
    wpList Try.prog ops Q (o :: rest) a w0 := by
  obtain ⟨i0, hi0, hz0, hz1, hz2⟩ := info_parts str_info
  cases p with
  | none =>
    have hM0 : M = [] := by
      cases M with
      | nil => rfl
      | cons y r => obtain ⟨_, _, h1, _⟩ := hM.cell 0 (by simp); cases h1
    subst hM0
    refine wpList_append_none0 hgd s x 22 ho B 9 i0 1 (by kernel_rfl) hi0 v L.length cap _ hs hown.row hx ?_
    exact h v w0 (by rw [List.append_nil]; exact hown) (fun w hw => hw)
  | some ad =>
    have hcell : ∀ j u, (M.map encStr)[j]? = some u → w0.cell? (ad.add j) = some u := by
      intro j u hj
      rw [List.getElem?_map] at hj
      by_cases hjl : j < M.length
      · rw [List.getElem?_eq_getElem hjl] at hj
        cases hj
        obtain ⟨a', o', h1, h2, h3⟩ := hM.cell j hjl
        cases h1
        rw [Addr.add_lit]
        exact h3
      · rw [List.getElem?_eq_none (by omega)] at hj; cases hj
    refine wpList_append_own _ hgd s x 22 ho B 9 i0 _ 1 16 (by kernel_rfl) hi0 hz0 hz1 hz2 rfl (by decide) v L.length _ hs hown.row ad M.length cap (M.map encStr) hx (by simp) hcell ?_ (by unfold maxLen; omega) (by omega) hB ?_
    · intro u hu
      obtain ⟨y, _, rfl⟩ := List.mem_map.1 hu
      rfl
    · intro v' w' ho' hg' _
      refine h v' w' ⟨?_, fun z hz => ?_⟩ (fun w hw => hw.grown hg' hB (fun q hq => (hown.row.lt q hq).1))
      · rw [List.length_append, List.map_append]; exact ho'
      · rw [List.mem_append] at hz
        exact hz.elim (hown.size _) (hM.size _)
end Go.Proofs.Ytejiagmfinhjbaa
