/-
  Walks: the reference's next.
-/
import Derived.Test.YtejiagmfinhjbaaNf
import Derived.Laws.AppendOwnNone
namespace Go.Proofs.Ytejiagmfinhjbaa
open Go.RowKit Go.Ident

/-- Bytes that the call has gathered. -/
def OB (W0 : World) (v : Value) (l : List UInt8) (w : World) : Prop := Lib.OwnBuf W0.heap.size 5 v l.length (Lib.byteCells l) W0 w
theorem OB.nil {W0 w : World} (h : Below W0.heap.size W0 w) : OB W0 (.slice none 0 0) [] w := ⟨World.ownsRowF_nil _ _ _ _, h, h.size⟩
theorem OB.below {W0 w : World} {v : Value} {l : List UInt8} (h : OB W0 v l w) : Below W0.heap.size W0 w := h.2.1
theorem OB.drew {W0 w : World} {v : Value} {l : List UInt8} (h : OB W0 v l w) : OB W0 v l w.drew := h.drewN 1
theorem OB.lit {W0 w : World} (h : Below W0.heap.size W0 w) (l : List UInt8) (cells : Array Value) (hc : cells.toList = Lib.byteCells l) (hl : l.length ≤ 1000000) :
    OB W0 (.slice (some ⟨w.heap.size, 0, none⟩) l.length l.length) l (w.alloc (.cells cells 5)) := by
  have hs : cells.size = l.length * 1 := by rw [← Array.length_toList, hc, Lib.byteCells_length]; omega
  have := World.ownsRow_lit (e := 5) (size := 1) w cells l.length h.size (by unfold maxLen; omega) hs
  rw [hc] at this
  exact ⟨World.ownsRowF_of this, h.alloc h.size _, Nat.le_trans h.size (by simp)⟩
theorem OB.conv {W0 w : World} {v : Value} {l : List UInt8} (h : OB W0 v l w) : (convert 60 9 v).run Try.prog w = .ok (.string ⟨l.toArray⟩) w := by
  obtain ⟨⟨hl, h⟩, _, _⟩ := h
  rcases h with ⟨rfl, h0⟩ | ⟨g, cap, cur, fz, rfl, _, hg, _, _, _, _, htk⟩
  · obtain rfl := List.eq_nil_of_length_eq_zero h0
    exact Lib.run_convert_nil_bytes w 60 9 5 0 (by kernel_rfl) (by kernel_rfl) (by kernel_rfl)
  · exact run_convert_bytes_back w 60 9 5 _ cap l (by kernel_rfl) (by kernel_rfl) (by kernel_rfl) (Lib.bytes_of_row hg (by rw [Nat.mul_one] at htk; exact htk))
/-- Bytes that the call has gathered, in a block that may be written. -/
def OR (W0 : World) (v : Value) (l : List UInt8) (w : World) : Prop := w.ownsRow W0.heap.size 5 1 v l.length (Lib.byteCells l) ∧ Below W0.heap.size W0 w
section
variable {W0 w w2 : World} {v : Value} {l : List UInt8} {g n cap : Nat}
theorem OR.below (h : OR W0 v l w) : Below W0.heap.size W0 w := h.2
theorem OR.size (h : OR W0 v l w) : W0.heap.size ≤ w.heap.size := h.2.size
theorem OR.drew (h : OR W0 v l w) : OR W0 v l w.drew := ⟨h.1, h.2.drew⟩
theorem OR.nil (h : Below W0.heap.size W0 w) : OR W0 (.slice none 0 0) [] w := ⟨World.ownsRow_nil _ _ _ _, h⟩
theorem OR.lit (h : Below W0.heap.size W0 w) (l : List UInt8) (cells : Array Value) (hc : cells.toList = Lib.byteCells l) (hl : l.length ≤ 1000000) :
    OR W0 (.slice (some ⟨w.heap.size, 0, none⟩) l.length l.length) l (w.alloc (.cells cells 5)) := by
  have hs : cells.size = l.length * 1 := by rw [← Array.length_toList, hc, Lib.byteCells_length]; omega
  have := World.ownsRow_lit (e := 5) (size := 1) w cells l.length h.size (by unfold maxLen; omega) hs
  rw [hc] at this
  exact ⟨this, h.alloc h.size _⟩
theorem OR.ob (h : OR W0 v l w) : OB W0 v l w := ⟨World.ownsRowF_of h.1, h.2, h.size⟩
theorem OR.conv (h : OR W0 v l w) : (convert 60 9 v).run Try.prog w = .ok (.string ⟨l.toArray⟩) w := h.ob.conv
theorem OR.form (h : OR W0 v l w) (hl : 0 < l.length) : ∃ g cap, v = .slice (some ⟨g, 0, none⟩) l.length cap := by
  rcases h.1.2 with ⟨_, h0⟩ | ⟨g, cap, _, h1, _⟩
  · omega
  · exact ⟨g, cap, h1⟩
theorem OR.form0 (h : OR W0 v l w) : ∃ p cap, v = .slice p l.length cap := by
  rcases h.1.2 with ⟨h1, h0⟩ | ⟨g, cap, _, h1, _⟩
  · exact ⟨none, 0, by rw [h1, h0]⟩
  · exact ⟨_, cap, h1⟩
theorem OR.cell (h : OR W0 (.slice (some ⟨g, 0, none⟩) n cap) l w) (hn : n = l.length) {i : Nat} (hi : i < l.length) : w.cell? ⟨g, i, none⟩ = some (.int .u8 l[i].toNat) := by
  subst hn
  rw [World.ownsRow.cellAt h.1 i (by omega)]
  simp [Lib.byteCells, hi]
theorem OR.frozen (h : OR W0 (.slice (some ⟨g, 0, none⟩) n cap) l w) (hn : n = l.length) (i : Nat) : w.frozen? ⟨g, i, none⟩ = false := by subst hn; exact World.ownsRow.frozenAt h.1 i
theorem OR.set (h : OR W0 (.slice (some ⟨g, 0, none⟩) n cap) l w) (hn : n = l.length) (i : Nat) (c : UInt8) : OR W0 (.slice (some ⟨g, 0, none⟩) n cap) (l.set i c) (w.setCell ⟨g, i, none⟩ (.int .u8 c.toNat)) := by
  subst hn
  have hs := World.ownsRow.stored h.1 i (.int .u8 c.toNat)
  refine ⟨?_, h.2.grown hs.2 h.size (fun k hk => by cases hk; exact (World.ownsRow.lt h.1 g rfl).1)⟩
  rw [List.length_set]
  have e : Lib.byteCells (l.set i c) = (Lib.byteCells l).set i (.int .u8 c.toNat) := by simp [Lib.byteCells, List.map_set]
  rw [e]
  exact hs.1
theorem OR.step (h : OR W0 v l w) (hb : Below w.heap.size w w2) : OR W0 v l w2 := ⟨ownsRow_below h.1 hb (Nat.le_refl _), h.2.trans (hb.mono h.size)⟩
theorem OR.rebase {w1 : World} (h : OR w1 v l w2) (hb : Below W0.heap.size W0 w1) : OR W0 v l w2 := ⟨World.ownsRow_base h.1 hb.size, hb.trans (h.2.mono hb.size)⟩
end
theorem appendR_bytes {ops : Array Oper} {rest : List Oper} {o : Oper} {a : Act} {Q : Exit → Act → World → Prop} (hgd : o.guard = none) (s x : Operand)
    (ho : o.op = .call { callee := .builtin .append, args := #[s, x], argTypes := #[60, 60] }) (W0 w0 : World) (v : Value) (l cs : List UInt8) (cells : Array Value) (hc : cells.toList = Lib.byteCells cs)
    (hs : a.eval s = v) (hb : OR W0 v l w0) (n : Nat) (hn : n = cs.length) (hx : a.eval x = .slice (some ⟨w0.heap.size, 0, none⟩) n n) (hlen : l.length + cs.length ≤ 100000000)
    (h : ∀ v' w', OR W0 v' (l ++ cs) w' → wpList Try.prog ops Q rest (a.put o.dst v') w') : wpList Try.prog ops Q (o :: rest) a (w0.alloc (.cells cells 5)) := by
  subst hn
  obtain ⟨i0, hi0, hz0, hz1, hz2⟩ := info_parts u8_info
  have hown := hb.1.alloc (.cells cells 5)
  have hbel := hb.2.alloc hb.size (.cells cells 5)
  refine wpList_append_own _ hgd s x 60 ho W0.heap.size 5 i0 (.int .u8 0) 1 1 (by kernel_rfl) hi0 hz0 hz1 hz2 rfl (by decide) v l.length _ hs hown ⟨w0.heap.size, 0, none⟩ cs.length cs.length (Lib.byteCells cs) hx (by rw [Lib.byteCells_length]; omega) ?_ (cells_one cs) (by unfold maxLen; omega) (by omega) hbel.size ?_
  · intro j u hj
    rw [Lib.addr_add, Nat.zero_add, cell_of_row _ _ _ _ _ _ (heap_alloc_new _ _), ← Array.getElem?_toList, hc]
    exact hj
  · intro v' w' ho' hg _
    refine h v' w' ⟨?_, hbel.grown hg hbel.size (fun k hk => (hown.lt k hk).1)⟩
    rw [List.length_append, Lib.byteCells_append]
    exact ho'
/-- 'append([]byte(nil), v...)'. -/
theorem appendR_copy {ops : Array Oper} {rest : List Oper} {o : Oper} {a : Act} {Q : Exit → Act → World → Prop} (hgd : o.guard = none) (s x : Operand)
    (ho : o.op = .call { callee := .builtin .append, args := #[s, x], argTypes := #[60, 60] }) (W0 w : World) (v : Value) (l : List UInt8) (hs : a.eval s = .slice none 0 0) (hx : a.eval x = v) (hb : OR W0 v l w) (hl : l.length ≤ 1000000)
    (h : ∀ v' w', OR w v' l w' → wpList Try.prog ops Q rest (a.put o.dst v') w') : wpList Try.prog ops Q (o :: rest) a w := by
  obtain ⟨i0, hi0, hz0, hz1, hz2⟩ := info_parts u8_info
  rcases hb.1.2 with ⟨hv, hn0⟩ | ⟨g, cap, cur, hv, hg⟩
  · subst hv
    have hl0 : l = [] := List.eq_nil_of_length_eq_zero hn0
    subst hl0
    exact wpList_append_own_none hgd s x 60 ho w.heap.size 5 i0 1 (by kernel_rfl) hi0 _ 0 [] hs (World.ownsRow_nil _ _ _ _) hx (h _ _ (OR.nil (Below.refl _ _)))
  · subst hv
    refine wpList_append_own _ hgd s x 60 ho w.heap.size 5 i0 (.int .u8 0) 1 1 (by kernel_rfl) hi0 hz0 hz1 hz2 rfl (by decide) _ 0 [] hs (World.ownsRow_nil _ _ _ _) ⟨g, 0, none⟩ l.length cap (Lib.byteCells l) hx (by rw [Lib.byteCells_length]; omega) (hb.1.cells rfl) (cells_one l) (by unfold maxLen; omega) (by omega) (Nat.le_refl _) ?_
    intro v' w' ho' hg' _
    rw [Nat.zero_add, List.nil_append] at ho'
    exact h v' w' ⟨ho', (Below.refl _ _).grown hg' (Nat.le_refl _) (fun k hk => by cases hk)⟩

theorem idx_le (l : List UInt8) (c : UInt8) : idx l c ≤ l.length := List.findIdx_le_length
theorem idx_lt {l : List UInt8} {c : UInt8} {k : Nat} (h : k < idx l c) (hk : k < l.length) : l[k] ≠ c := by
  have := List.not_of_lt_findIdx h
  simpa using this
theorem idx_at {l : List UInt8} {c : UInt8} (h : idx l c < l.length) : l[idx l c] = c := by
  have := List.findIdx_getElem (p := (· == c)) (xs := l) (w := h)
  simp only [beq_iff_eq] at this
  exact this
/-- The alphabet of a place. -/
def alph (A B : ByteArray) (i : Nat) : ByteArray := if i = 0 then A else B
theorem alph_list (A B : ByteArray) (i : Nat) : (alph A B i).data.toList = if i = 0 then A.data.toList else B.data.toList := by unfold alph; split <;> rfl
theorem rgo_yes {A B : ByteArray} {l : List UInt8} {i k : Nat} (h : i < l.length) (hk : k = idx (alph A B i).data.toList l[i]) (hk2 : k + 1 < (alph A B i).size) : rnxtGo A.data.toList B.data.toList l (i + 1) = some (l.set i (alph A B i)[k + 1]) := by
  have hl := llt hk2
  rw [rnxtGo]
  simp only [← alph_list, List.getD_eq_getElem?_getD, List.getElem?_eq_getElem h, Option.getD_some, ← hk, if_pos hl, List.getElem?_eq_getElem hl]
  rfl
theorem rgo_no {A B : ByteArray} {l : List UInt8} {i k : Nat} (h : i < l.length) (hk : k = idx (alph A B i).data.toList l[i]) (hk2 : ¬ k + 1 < (alph A B i).size) (h0 : 0 < (alph A B i).size) : rnxtGo A.data.toList B.data.toList l (i + 1) = rnxtGo A.data.toList B.data.toList (l.set i (alph A B i)[0]) i := by
  have hl : ¬ k + 1 < (alph A B i).data.toList.length := by rw [list_size]; exact hk2
  have hl0 := llt h0
  rw [rnxtGo]
  simp only [← alph_list, List.getD_eq_getElem?_getD, List.getElem?_eq_getElem h, Option.getD_some, ← hk, if_neg hl, List.getElem?_eq_getElem hl0]
  rfl
/-- What the loop of the reference's next has. -/
structure RN (w : World) (A B : ByteArray) (l : List UInt8) (v : Value) (j : Nat) (l' : List UInt8) (wr : World) : Prop where
  jl : j ≤ l'.length
  len : l'.length = l.length
  go : rnxtGo A.data.toList B.data.toList l l.length = rnxtGo A.data.toList B.data.toList l' j
  own : OR w v l' wr
theorem RN.drew {w wr : World} {A B : ByteArray} {l l' : List UInt8} {v : Value} {j : Nat} (h : RN w A B l v j l' wr) : RN w A B l v j l' wr.drew := ⟨h.jl, h.len, h.go, h.own.drew⟩
theorem RN.next {w wr : World} {A B al : ByteArray} {l l' : List UInt8} {g cap j k : Nat} (hal : al = alph A B j) (h : RN w A B l (.slice (some ⟨g, 0, none⟩) l.length cap) (j + 1) l' wr) (hj : j < l'.length) (hk : k = idx al.data.toList l'[j]) (hk2 : ¬ k + 1 < al.size) (h0 : 0 < al.size) :
    RN w A B l (.slice (some ⟨g, 0, none⟩) l.length cap) j (l'.set j al[0]) (wr.setCell ⟨g, j, none⟩ (.int .u8 al[0].toNat)) := by
  subst hal
  exact ⟨by rw [List.length_set]; omega, by rw [List.length_set]; exact h.len, h.go.trans (rgo_no hj hk hk2 h0), h.own.set h.len.symm j _⟩
theorem RN.done {w wr : World} {A B al : ByteArray} {l l' : List UInt8} {g cap j k : Nat} (hal : al = alph A B j) (h : RN w A B l (.slice (some ⟨g, 0, none⟩) l.length cap) (j + 1) l' wr) (hj : j < l'.length) (hk : k = idx al.data.toList l'[j]) (hk2 : k + 1 < al.size) :
    OR w (.slice (some ⟨g, 0, none⟩) l.length cap) (rnxt A.data.toList B.data.toList l) (wr.setCell ⟨g, j, none⟩ (.int .u8 al[k + 1].toNat)) := by
  subst hal
  have : rnxt A.data.toList B.data.toList l = l'.set j (alph A B j)[k + 1] := by unfold rnxt; rw [h.go, rgo_yes hj hk hk2]; rfl
  rw [this]
  exact h.own.set h.len.symm j _
theorem RN.cell {w wr : World} {A B : ByteArray} {l l' : List UInt8} {g cap j : Nat} {c : UInt8} (h : RN w A B l (.slice (some ⟨g, 0, none⟩) l.length cap) (j + 1) l' wr) (hj : j < l'.length) (hc : c = l'[j]) : wr.cell? ⟨g, j, none⟩ = some (.int .u8 c.toNat) ∧ wr.frozen? ⟨g, j, none⟩ = false := by
  subst hc
  exact ⟨h.own.cell h.len.symm hj, h.own.frozen h.len.symm j⟩
/-- Where a byte stands in an alphabet. -/
theorem idx_facts {al : ByteArray} {c : UInt8} {ix : Nat} (hix : ix = idx al.data.toList c) : ix ≤ al.size ∧ (∀ k (hk : k < al.size), k < ix → al[k].toNat ≠ c.toNat) ∧ (∀ (hk : ix < al.size), al[ix].toNat = c.toNat) := by
  refine ⟨by rw [hix, ← list_size]; exact idx_le _ _, fun k hk h => ?_, fun hk => ?_⟩
  · rw [hix] at h
    have := idx_lt h (llt hk)
    intro h2; exact this (UInt8.toNat_inj.1 h2)
  · have h2 := llt hk
    have : al.data.toList[ix] = c := by subst hix; exact idx_at h2
    exact congrArg UInt8.toNat this

set_option maxRecDepth 100000 in
set_option maxHeartbeats 16000000 in
theorem refNext_any (A B : ByteArray) (hA : 0 < A.size) (hA2 : A.size ≤ 256) (hB : 0 < B.size) (hB2 : B.size ≤ 256) (v : Value) (l : List UInt8) (hl : l.length ≤ 1000) (w0 w : World) (h : OR w0 v l w) :
    Calls Try.prog 53 #[v, .string A, .string B] w fun e w' => ∃ v', e = .returned v' ∧ OR w v' (rnxt A.data.toList B.data.toList l) w' := by
  have H := Lib.hid h; clear h
  go_enter Try.func53, Try.ntmps53
  go_upto_region 2 with (first
    | (at_builtin; refine appendR_copy rfl (.const (.slice none 0 0)) (.tmp 12) rfl w0 w _ l rfl rfl H.out (by omega) ?_; intro v1 w1 hor1; have H1 := Lib.hid hor1; clear hor1))
  obtain ⟨p, cap, rfl⟩ := H1.out.form0
  go_wp2
  have hst := Lib.hid (show RN w A B l (.slice p l.length cap) l.length l w1 from ⟨Nat.le_refl _, rfl, rfl, H1.out⟩)
  go_loopw [8] (fun i wr => ∃ (j : Nat) (l' : List UInt8), ((i = .int .i64 (-1) ∧ j = 0) ∨ ∃ j' : Nat, j = j' + 1 ∧ i = .int .i64 j') ∧ RN w A B l (.slice p l.length cap) j l' wr) (fun i _ => (intOf i + 1).toNat)
  case atStart => exact ⟨l.length, l, idx_ok _, hst.out⟩
  case round =>
    obtain ⟨j, l', hj, hni⟩ := hrel
    rcases hj with ⟨rfl, rfl⟩ | ⟨j', rfl, rfl⟩
    · have hnx : rnxt A.data.toList B.data.toList l = A[0] :: List.replicate l.length B[0] := by
        unfold rnxt; rw [hni.go]
        have e1 : A.data.toList.getD 0 0 = A[0] := by rw [List.getD_eq_getElem?_getD, List.getElem?_eq_getElem (llt hA)]; rfl
        have e2 : B.data.toList.getD 0 0 = B[0] := by rw [List.getD_eq_getElem?_getD, List.getElem?_eq_getElem (llt hB)]; rfl
        rw [e1, e2]; rfl
      have Hnx := Lib.hid hnx; clear hnx
      have Hni := Lib.hid hni; clear hni
      have hor := OR.lit Hni.out.own.below [A[0]] #[.int .u8 A[0].toNat] rfl (by simp)
      have Hor := Lib.hid hor; clear hor
      go_wp2
      go_loopg [7] (l.length) (fun q v2 w2 => ∃ m : Nat, q + m = l.length ∧ OR w v2 (A[0] :: List.replicate m B[0]) w2)
      case atStart => exact ⟨0, by omega, Hor.out⟩
      case round =>
        obtain ⟨m, hm, hor⟩ := hrel
        obtain ⟨g, cap2, hv⟩ := hor.form (by simp)
        have hlen : (A[0] :: List.replicate m B[0]).length = m + 1 := by simp
        rw [hlen] at hv
        subst hv
        have Hor2 := Lib.hid hor; clear hor
        by_cases hlt : m < l.length
        · have d1 : decide ((m : Int) + 1 < (l.length : Int) + 1) = true := by simp; omega
          have hrep : (A[0] :: List.replicate m B[0]) ++ [B[0]] = A[0] :: List.replicate (m + 1) B[0] := by rw [List.cons_append, List.replicate_succ']
          have Hrep := Lib.hid hrep; clear hrep
          have Hlen := Lib.hid hlen; clear hlen
          go_wp2_with (first
            | (at_builtin; refine appendR_bytes rfl (.tmp 69) (.tmp 72) rfl w _ _ (A[0] :: List.replicate m B[0]) [B[0]] _ rfl rfl Hor2.out 1 rfl rfl (by rw [Hlen.out]; simp only [List.length_cons, List.length_nil]; omega) ?_; intro v' w' hob; have Hob := Lib.hid hob; clear hob))
          go_roundg (l.length - (m + 1))
          case measure => omega
          case rel => exact ⟨m + 1, by omega, by rw [← Hrep.out]; exact Hob.out⟩
        · have d1 : decide ((m : Int) + 1 < (l.length : Int) + 1) = false := by simp; omega
          obtain rfl : m = l.length := by omega
          clear hlen
          go_wp2
          go_ret
          exact ⟨_, rfl, by rw [Hnx.out]; exact Hor2.out⟩
    · have hjl : j' < l'.length := hni.jl
      have hll := hni.len
      obtain ⟨g, cap3, hv⟩ := hni.own.form (by omega)
      rw [hll] at hv
      simp only [Value.slice.injEq, true_and] at hv
      obtain ⟨rfl, rfl⟩ := hv
      have hjb : j' ≤ 1000 := by omega
      have hjl2 : j' < l.length := by omega
      by_cases hj0 : j' = 0
      · subst hj0
        have hal : A = alph A B 0 := rfl
        have hal0 : 0 < A.size := hA
        have hal2 : A.size ≤ 256 := hA2
        obtain ⟨ix, hix⟩ : ∃ k, k = idx A.data.toList l'[0] := ⟨_, rfl⟩
        obtain ⟨hi1, hi2, hi3⟩ := idx_facts hix
        obtain ⟨c, hc⟩ : ∃ c, c = l'[0] := ⟨_, rfl⟩
        rw [← hc] at hi2 hi3
        have C0 := Lib.hid (fun (w2 : World) (h2 : RN w A B l (.slice (some ⟨g, 0, none⟩) l.length cap) (0 + 1) l' w2) => h2.cell hjl hc)
        have Hnext := Lib.hid (fun (w2 : World) (h2 : RN w A B l (.slice (some ⟨g, 0, none⟩) l.length cap) (0 + 1) l' w2) hk2 => h2.next hal hjl hix hk2 hal0)
        have Hdone := Lib.hid (fun (w2 : World) (h2 : RN w A B l (.slice (some ⟨g, 0, none⟩) l.length cap) (0 + 1) l' w2) hk2 => h2.done hal hjl hix hk2)
        have Hni := Lib.hid hni; have Hi2 := Lib.hid hi2; have Hi3 := Lib.hid hi3
        clear hni hix hi2 hi3 hc hal hll hjl
        go_wp2
        go_loopw [10] (fun kv w2 => ∃ kk : Nat, kk ≤ ix ∧ kv = .int .i64 kk ∧ RN w A B l (.slice (some ⟨g, 0, none⟩) l.length cap) (0 + 1) l' w2) (fun kv _ => A.size - (intOf kv).toNat)
        case atStart => exact ⟨0, by omega, rfl, Hni.out⟩
        case round =>
          obtain ⟨kk, hkk, rfl, h2⟩ := hrel
          obtain ⟨c0, f0⟩ := C0.out _ h2.drew
          have H2 := Lib.hid h2.drew; clear h2
          by_cases hks : kk < A.size
          · have dk : decide ((kk : Int) < (A.size : Int)) = true := by simp; omega
            by_cases heq : A[kk].toNat = c.toNat
            · have hki : kk = ix := by
                rcases Nat.lt_or_eq_of_le hkk with h | h
                · exact absurd heq (Hi2.out kk hks h)
                · exact h
              have dne : ((A[kk].toNat : Int) != (c.toNat : Int)) = false := by rw [heq]; simp
              clear heq
              by_cases hk2 : kk + 1 < A.size
              · have d2 : decide ((kk : Int) + 1 < (A.size : Int)) = true := by simp; omega
                subst hki
                have Hdn := Lib.hid (Hdone.out _ H2.out hk2)
                go_wp2_with (first
              | ((with_reducible refine Lex.at_region ?_); with_reducible refine Lex.wp_region_lex (by kernel_rfl) (by decide +kernel) ?_)
              | ((with_reducible refine Lex.at_fin ?_); with_reducible refine Lex.fin_on (by kernel_rfl) ?_))
                go_ret
                exact ⟨_, rfl, Hdn.out⟩
              · have d2 : decide ((kk : Int) + 1 < (A.size : Int)) = false := by simp; omega
                have Hnx := Lib.hid (Hnext.out _ H2.out (by omega))
                clear hki
                go_wp2_with (first
              | ((with_reducible refine Lex.at_region ?_); with_reducible refine Lex.wp_region_lex (by kernel_rfl) (by decide +kernel) ?_)
              | ((with_reducible refine Lex.at_fin ?_); with_reducible refine Lex.fin_on (by kernel_rfl) ?_))
                exact ⟨⟨0, _, idx_ok 0, Hnx.out⟩, by simp [intOf]⟩
            · have hlt : kk < ix := by
                rcases Nat.lt_or_eq_of_le hkk with h | h
                · exact h
                · subst h; exact absurd (Hi3.out hks) heq
              have dne : ((A[kk].toNat : Int) != (c.toNat : Int)) = true := by simp; omega
              clear heq
              go_wp2_with (first
              | ((with_reducible refine Lex.at_region ?_); with_reducible refine Lex.wp_region_lex (by kernel_rfl) (by decide +kernel) ?_)
              | ((with_reducible refine Lex.at_fin ?_); with_reducible refine Lex.fin_on (by kernel_rfl) ?_))
              exact ⟨⟨kk + 1, by omega, by go_num, H2.out⟩, by simp [intOf]; omega⟩
          · have dk : decide ((kk : Int) < (A.size : Int)) = false := by simp; omega
            have d2 : decide ((kk : Int) + 1 < (A.size : Int)) = false := by simp; omega
            have Hnx := Lib.hid (Hnext.out _ H2.out (by omega))
            go_wp2_with (first
              | ((with_reducible refine Lex.at_region ?_); with_reducible refine Lex.wp_region_lex (by kernel_rfl) (by decide +kernel) ?_)
              | ((with_reducible refine Lex.at_fin ?_); with_reducible refine Lex.fin_on (by kernel_rfl) ?_))
            exact ⟨⟨0, _, idx_ok 0, Hnx.out⟩, by simp [intOf]⟩
      · have hal : B = alph A B j' := by unfold alph; rw [if_neg hj0]
        have dj : ((j' : Int) == 0) = false := by simp; omega
        clear hj0
        have hal0 : 0 < B.size := hB
        have hal2 : B.size ≤ 256 := hB2
        obtain ⟨ix, hix⟩ : ∃ k, k = idx B.data.toList l'[j'] := ⟨_, rfl⟩
        obtain ⟨hi1, hi2, hi3⟩ := idx_facts hix
        obtain ⟨c, hc⟩ : ∃ c, c = l'[j'] := ⟨_, rfl⟩
        rw [← hc] at hi2 hi3
        have C0 := Lib.hid (fun (w2 : World) (h2 : RN w A B l (.slice (some ⟨g, 0, none⟩) l.length cap) (j' + 1) l' w2) => h2.cell hjl hc)
        have Hnext := Lib.hid (fun (w2 : World) (h2 : RN w A B l (.slice (some ⟨g, 0, none⟩) l.length cap) (j' + 1) l' w2) hk2 => h2.next hal hjl hix hk2 hal0)
        have Hdone := Lib.hid (fun (w2 : World) (h2 : RN w A B l (.slice (some ⟨g, 0, none⟩) l.length cap) (j' + 1) l' w2) hk2 => h2.done hal hjl hix hk2)
        have Hni := Lib.hid hni; have Hi2 := Lib.hid hi2; have Hi3 := Lib.hid hi3
        clear hni hix hi2 hi3 hc hal hll hjl
        go_wp2
        go_loopw [10] (fun kv w2 => ∃ kk : Nat, kk ≤ ix ∧ kv = .int .i64 kk ∧ RN w A B l (.slice (some ⟨g, 0, none⟩) l.length cap) (j' + 1) l' w2) (fun kv _ => B.size - (intOf kv).toNat)
        case atStart => exact ⟨0, by omega, rfl, Hni.out⟩
        case round =>
          obtain ⟨kk, hkk, rfl, h2⟩ := hrel
          obtain ⟨c0, f0⟩ := C0.out _ h2.drew
          have H2 := Lib.hid h2.drew; clear h2
          by_cases hks : kk < B.size
          · have dk : decide ((kk : Int) < (B.size : Int)) = true := by simp; omega
            by_cases heq : B[kk].toNat = c.toNat
            · have hki : kk = ix := by
                rcases Nat.lt_or_eq_of_le hkk with h | h
                · exact absurd heq (Hi2.out kk hks h)
                · exact h
              have dne : ((B[kk].toNat : Int) != (c.toNat : Int)) = false := by rw [heq]; simp
              clear heq
              by_cases hk2 : kk + 1 < B.size
              · have d2 : decide ((kk : Int) + 1 < (B.size : Int)) = true := by simp; omega
                subst hki
                have Hdn := Lib.hid (Hdone.out _ H2.out hk2)
                go_wp2_with (first
              | ((with_reducible refine Lex.at_region ?_); with_reducible refine Lex.wp_region_lex (by kernel_rfl) (by decide +kernel) ?_)
              | ((with_reducible refine Lex.at_fin ?_); with_reducible refine Lex.fin_on (by kernel_rfl) ?_))
                go_ret
                exact ⟨_, rfl, Hdn.out⟩
              · have d2 : decide ((kk : Int) + 1 < (B.size : Int)) = false := by simp; omega
                have Hnx := Lib.hid (Hnext.out _ H2.out (by omega))
                clear hki
                go_wp2_with (first
              | ((with_reducible refine Lex.at_region ?_); with_reducible refine Lex.wp_region_lex (by kernel_rfl) (by decide +kernel) ?_)
              | ((with_reducible refine Lex.at_fin ?_); with_reducible refine Lex.fin_on (by kernel_rfl) ?_))
                exact ⟨⟨j', _, idx_ok j', Hnx.out⟩, by simp [intOf]⟩
            · have hlt : kk < ix := by
                rcases Nat.lt_or_eq_of_le hkk with h | h
                · exact h
                · subst h; exact absurd (Hi3.out hks) heq
              have dne : ((B[kk].toNat : Int) != (c.toNat : Int)) = true := by simp; omega
              clear heq
              go_wp2_with (first
              | ((with_reducible refine Lex.at_region ?_); with_reducible refine Lex.wp_region_lex (by kernel_rfl) (by decide +kernel) ?_)
              | ((with_reducible refine Lex.at_fin ?_); with_reducible refine Lex.fin_on (by kernel_rfl) ?_))
              exact ⟨⟨kk + 1, by omega, by go_num, H2.out⟩, by simp [intOf]; omega⟩
          · have dk : decide ((kk : Int) < (B.size : Int)) = false := by simp; omega
            have d2 : decide ((kk : Int) + 1 < (B.size : Int)) = false := by simp; omega
            have Hnx := Lib.hid (Hnext.out _ H2.out (by omega))
            go_wp2_with (first
              | ((with_reducible refine Lex.at_region ?_); with_reducible refine Lex.wp_region_lex (by kernel_rfl) (by decide +kernel) ?_)
              | ((with_reducible refine Lex.at_fin ?_); with_reducible refine Lex.fin_on (by kernel_rfl) ?_))
            exact ⟨⟨j', _, idx_ok j', Hnx.out⟩, by simp [intOf]⟩
end Go.Proofs.Ytejiagmfinhjbaa
