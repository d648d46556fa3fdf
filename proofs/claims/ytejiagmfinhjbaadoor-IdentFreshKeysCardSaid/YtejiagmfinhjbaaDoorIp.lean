/-
  Walks: the reference's FreshKey; the law of fresh keys.
-/
import Derived.Test.YtejiagmfinhjbaaDoorIw
import Derived.Test.YtejiagmfinhjbaaDoorLexK
namespace Go.Proofs.YtejiagmfinhjbaaDoor
open Go.RowKit Go.Ident

theorem str_info : (Tryd.prog.info? 9).map (fun i => (i.zero, i.size, i.bytes)) = some (some (.string ⟨#[]⟩), 1, 16) := by kernel_rfl
/-- Strings that the call has gathered. -/
def OS (W0 : World) (v : Value) (ss : List ByteArray) (w : World) : Prop := w.ownsRow W0.heap.size 9 1 v ss.length (ss.map Value.string) ∧ Below W0.heap.size W0 w
theorem OS.strs {W0 w : World} {v : Value} {ss : List ByteArray} (h : OS W0 v ss w) (hz : ∀ i (h : i < ss.length), ss[i].size ≤ maxLen) : ∃ p cap, v = .slice p ss.length cap ∧ Strs w p ss := by
  rcases h.1.2 with ⟨h1, h0⟩ | ⟨g, cap, cur, h1, hb, hg, _⟩
  · have : ss = [] := List.eq_nil_of_length_eq_zero h0
    subst this
    exact ⟨none, 0, h1, ⟨fun i hi => absurd hi (by simp), fun i hi => absurd hi (by simp)⟩⟩
  · refine ⟨some ⟨g, 0, none⟩, cap, h1, ⟨fun i hi => ⟨g, 0, rfl, Lib.lt_of_heap hg, ?_⟩, hz⟩⟩
    have h2 := h.1
    rw [h1] at h2
    rw [Nat.zero_add, World.ownsRow.cellAt h2 i (by omega)]
    simp [hi]
theorem appendS {ops : Array Oper} {rest : List Oper} {o : Oper} {a : Act} {Q : Exit → Act → World → Prop} (hgd : o.guard = none) (s x : Operand)
    (ho : o.op = .call { callee := .builtin .append, args := #[s, x], argTypes := #[34, 34] }) (W0 w0 : World) (v : Value) (ss : List ByteArray) (t : ByteArray)
    (hs : a.eval s = v) (hb : OS W0 v ss w0) (hx : a.eval x = .slice (some ⟨w0.heap.size, 0, none⟩) 1 1) (hlen : ss.length ≤ 1000000)
    (h : ∀ v' w', OS W0 v' (ss ++ [t]) w' → wpList Tryd.prog ops Q rest (a.put o.dst v') w') : wpList Tryd.prog ops Q (o :: rest) a (w0.alloc (.cells #[.string t] 9)) := by
  obtain ⟨i0, hi0, hz0, hz1, hz2⟩ := info_parts str_info
  have hown := hb.1.alloc (.cells #[.string t] 9)
  have hbel := hb.2.alloc hb.2.size (.cells #[.string t] 9)
  refine wpList_append_own _ hgd s x 34 ho W0.heap.size 9 i0 (.string ⟨#[]⟩) 1 16 (by kernel_rfl) hi0 hz0 hz1 hz2 rfl (by decide) v ss.length _ hs hown ⟨w0.heap.size, 0, none⟩ 1 1 [.string t] hx rfl ?_ ?_ (by unfold maxLen; omega) (by omega) hbel.size ?_
  · intro j u hj
    match j, hj with
    | 0, hj => simp at hj; subst hj; simp [Addr.add]
    | (j + 1), hj => simp at hj
  · intro u hu; simp at hu; subst hu; rfl
  · intro v' w' ho' hg _
    refine h v' w' ⟨?_, hbel.grown hg hbel.size (fun k hk => (hown.lt k hk).1)⟩
    rw [List.length_append, List.map_append]
    exact ho'
theorem filt_size {w : World} {p : Option Addr} {ks : List (Int × ByteArray)} (h : Keys w p ks) (kind : Int) : ∀ i (hi : i < (filt kind ks).length), (filt kind ks)[i].size ≤ maxLen := by
  intro i hi
  have hm : (filt kind ks)[i] ∈ filt kind ks := List.getElem_mem hi
  obtain ⟨q, hq, he⟩ := List.mem_map.1 hm
  have hq2 := (List.mem_filter.1 hq).1
  obtain ⟨j, hj, rfl⟩ := List.getElem_of_mem hq2
  rw [← he]; exact h.size j hj
theorem filt_mem {ks : List (Int × ByteArray)} {kind : Int} {k : Nat} (h : k < ks.length) (he : ks[k].1 = kind) : ks[k].2.data.toList ∈ bys (filt kind ks) := by
  refine List.mem_map.2 ⟨ks[k].2, List.mem_map.2 ⟨ks[k], List.mem_filter.2 ⟨List.getElem_mem h, by simpa using he⟩, rfl⟩, rfl⟩

set_option maxRecDepth 100000 in
set_option maxHeartbeats 8000000 in
theorem refFreshKeyN (kind : Int) (h0 : kind ≠ 0) (h1 : kind ≠ 1) (v : Value) (w : World) :
    Calls Tryd.prog 27 #[.int .i64 kind, v] w fun e w' => e = .returned (.agg #[.int .i64 0, .string ⟨#[]⟩]) ∧ Below w.heap.size w w' := by
  have d0 : (kind != 0) = true := by simpa using h0
  have d1 : (kind != 1) = true := by simpa using h1
  clear h0 h1
  have Hb := Lib.hid (Blk.new w 0 ⟨#[]⟩)
  have HB := Lib.hid ((Below.refl w.heap.size w).alloc (Nat.le_refl _) (.cells #[.int .i64 0, .string ⟨#[]⟩] 23))
  go_enter Tryd.func27, Tryd.ntmps27
  go_upto_region 1 with fail
  generalize w.alloc (.cells #[.int .i64 0, .string ⟨#[]⟩] 23) = w1 at *
  go_wp2_with (first
    | ((with_reducible refine at_store ?_); refine wpList_store_row rfl 23 (.tmp 4) (.tmp 13) rfl _ _ rfl rfl _ _ Hb.out (by kernel_rfl) (by kernel_rfl) (by kernel_rfl) ?_))
  exact bodyPost_ret (results_cell_row rfl _ _ w.heap.size 23 _ (0, 0) _ rfl (setRow_heap _ _ _ _ _ _ Hb.out) rfl rfl (by kernel_rfl)) rfl ⟨rfl, below_setRow HB.out (Nat.le_refl _) _⟩

set_option maxRecDepth 100000 in
set_option maxHeartbeats 16000000 in
theorem refFreshKey0 (p : Option Addr) (cap : Nat) (ks : List (Int × ByteArray)) (hks : ks.length ≤ 60) (w : World) (hst : Keys w p ks) :
    Calls Tryd.prog 27 #[.int .i64 0, .slice p ks.length cap] w fun e w' => e = .returned (.agg #[.int .i64 0, .string ⟨(fre 0 (bys (filt 0 ks))).toArray⟩]) ∧ Below w.heap.size w w' := by
  have hz := filt_size hst 0
  have hfl := filt_len 0 ks
  have Hst := Lib.hid hst; clear hst
  obtain ⟨m, hm⟩ : ∃ m, m = ks.length := ⟨_, rfl⟩
  rw [← hm]
  have hmb : m ≤ 60 := by omega
  have hF := fun (p2 : Option Addr) (cap2 : Nat) (w2 : World) (h : Strs w2 p2 (filt 0 ks)) => refFresh_any 0 (by omega) p2 cap2 (filt 0 ks) (by omega) w2 h
  obtain ⟨ft, hft⟩ : ∃ ft, ft = fre 0 (bys (filt 0 ks)) := ⟨_, rfl⟩
  rw [← hft] at hF ⊢
  have Hm := Lib.hid hm; have HF := Lib.hid hF; have Hz := Lib.hid hz; have Hfl := Lib.hid hfl
  clear hm hF hz hks hft hfl
  have Hb := Lib.hid (Blk.new w 0 ⟨#[]⟩)
  have HB := Lib.hid ((Below.refl w.heap.size w).alloc (Nat.le_refl _) (.cells #[.int .i64 0, .string ⟨#[]⟩] 23))
  go_enter Tryd.func27, Tryd.ntmps27
  go_upto_region 1 with fail
  generalize w.alloc (.cells #[.int .i64 0, .string ⟨#[]⟩] 23) = w1 at *
  go_wp2
  have Hos := Lib.hid (show OS w1 (.slice none 0 0) (filt 0 (ks.take 0)) w1 from ⟨World.ownsRow_nil _ _ _ _, Below.refl _ _⟩)
  go_loopw [5, 6] (fun v i wr => ∃ k : Nat, k ≤ m ∧ i = .int .i64 k ∧ OS w1 v (filt 0 (ks.take k)) wr) (fun _ i _ => m - (intOf i).toNat)
  case atStart => exact ⟨0, by omega, rfl, Hos.out⟩
  case round =>
    obtain ⟨k, hk, rfl, hos⟩ := hrel
    by_cases hlt : k < m
    · have hkl : k < ks.length := by rw [← Hm.out]; exact hlt
      obtain ⟨a, o, rfl, ha, x0, x1⟩ := (Hst.out.below (HB.out.trans (hos.2.mono HB.out.size))).cell k hkl
      have Hlk := Lib.hid (Nat.le_trans (filt_len 0 (ks.take k)) (show (ks.take k).length ≤ 1000000 by simp; omega))
      by_cases he : ks[k].1 = 0
      · have hfy := filt_yes hkl he
        rw [he] at x0
        obtain ⟨s, hs⟩ : ∃ s, s = ks[k].2 := ⟨_, rfl⟩
        rw [← hs] at x1 hfy
        have Hos2 := Lib.hid hos; have Hfy := Lib.hid hfy
        clear hos hfy he hs hkl ha
        go_wp2_with (first
          | (at_builtin; refine appendS rfl (.tmp 27) (.tmp 33) rfl w1 _ _ _ s rfl Hos2.out rfl Hlk.out ?_; intro v' w' hob; have Hob := Lib.hid hob; clear hob))
        exact ⟨⟨k + 1, by omega, by go_num, by rw [Hfy.out]; exact Hob.out⟩, by simp [intOf]; omega⟩
      · have hfn := filt_no hkl he
        have d0 : (ks[k].1 == 0) = false := by simpa using he
        have Hos2 := Lib.hid hos; have Hfn := Lib.hid hfn
        generalize ks[k].1 = k1 at *
        generalize ks[k].2 = s1 at *
        clear hos hfn he hkl ha
        go_wp2
        exact ⟨⟨k + 1, by omega, by go_num, by rw [Hfn.out]; exact Hos2.out⟩, by simp [intOf]; omega⟩
    · have hall : ks.take k = ks := List.take_of_length_le (by rw [← Hm.out]; omega)
      rw [hall] at hos
      obtain ⟨p2, cap2, hv, hS⟩ := hos.strs Hz.out
      have hX := HF.out p2 cap2 wr hS
      obtain ⟨n2, hn2⟩ : ∃ n2, n2 = (filt 0 ks).length := ⟨_, rfl⟩
      rw [← hn2] at hX hv
      subst hv
      have Hbw := Lib.hid (Hb.out.below (show Below w1.heap.size w1 wr from hos.2))
      have Hb2 := Lib.hid hos.2
      clear hos hS hall hn2
      go_wp2_with (first
        | (go_at_call 46; refine hX.mono ?_; rintro e w3 ⟨rfl, hb3⟩; have Hb3 := Lib.hid hb3; clear hb3; have Hbx := Lib.hid (Hbw.out.below Hb3.out))
        | ((with_reducible refine at_store ?_); refine wpList_store_row rfl 23 (.tmp 4) (.tmp 39) rfl _ _ rfl rfl _ _ Hbx.out (by kernel_rfl) (by kernel_rfl) (by kernel_rfl) ?_))
      exact bodyPost_ret (results_cell_row rfl _ _ w.heap.size 23 _ (0, 0) _ rfl (setRow_heap _ _ _ _ _ _ Hbx.out) rfl rfl (by kernel_rfl)) rfl ⟨rfl, below_setRow (below_trans (HB.out.trans (Hb2.out.mono HB.out.size)) Hb3.out) (Nat.le_refl _) _⟩

set_option maxRecDepth 100000 in
set_option maxHeartbeats 16000000 in
theorem refFreshKey1 (p : Option Addr) (cap : Nat) (ks : List (Int × ByteArray)) (hks : ks.length ≤ 60) (w : World) (hst : Keys w p ks) :
    Calls Tryd.prog 27 #[.int .i64 1, .slice p ks.length cap] w fun e w' => e = .returned (.agg #[.int .i64 1, .string ⟨(fre 1 (bys (filt 1 ks))).toArray⟩]) ∧ Below w.heap.size w w' := by
  have hz := filt_size hst 1
  have hfl := filt_len 1 ks
  have Hst := Lib.hid hst; clear hst
  obtain ⟨m, hm⟩ : ∃ m, m = ks.length := ⟨_, rfl⟩
  rw [← hm]
  have hmb : m ≤ 60 := by omega
  have hF := fun (p2 : Option Addr) (cap2 : Nat) (w2 : World) (h : Strs w2 p2 (filt 1 ks)) => refFresh_any 1 (by omega) p2 cap2 (filt 1 ks) (by omega) w2 h
  obtain ⟨ft, hft⟩ : ∃ ft, ft = fre 1 (bys (filt 1 ks)) := ⟨_, rfl⟩
  rw [← hft] at hF ⊢
  have Hm := Lib.hid hm; have HF := Lib.hid hF; have Hz := Lib.hid hz; have Hfl := Lib.hid hfl
  clear hm hF hz hks hft hfl
  have Hb := Lib.hid (Blk.new w 0 ⟨#[]⟩)
  have HB := Lib.hid ((Below.refl w.heap.size w).alloc (Nat.le_refl _) (.cells #[.int .i64 0, .string ⟨#[]⟩] 23))
  go_enter Tryd.func27, Tryd.ntmps27
  go_upto_region 1 with fail
  generalize w.alloc (.cells #[.int .i64 0, .string ⟨#[]⟩] 23) = w1 at *
  go_wp2
  have Hos := Lib.hid (show OS w1 (.slice none 0 0) (filt 1 (ks.take 0)) w1 from ⟨World.ownsRow_nil _ _ _ _, Below.refl _ _⟩)
  go_loopw [5, 6] (fun v i wr => ∃ k : Nat, k ≤ m ∧ i = .int .i64 k ∧ OS w1 v (filt 1 (ks.take k)) wr) (fun _ i _ => m - (intOf i).toNat)
  case atStart => exact ⟨0, by omega, rfl, Hos.out⟩
  case round =>
    obtain ⟨k, hk, rfl, hos⟩ := hrel
    by_cases hlt : k < m
    · have hkl : k < ks.length := by rw [← Hm.out]; exact hlt
      obtain ⟨a, o, rfl, ha, x0, x1⟩ := (Hst.out.below (HB.out.trans (hos.2.mono HB.out.size))).cell k hkl
      have Hlk := Lib.hid (Nat.le_trans (filt_len 1 (ks.take k)) (show (ks.take k).length ≤ 1000000 by simp; omega))
      by_cases he : ks[k].1 = 1
      · have hfy := filt_yes hkl he
        rw [he] at x0
        obtain ⟨s, hs⟩ : ∃ s, s = ks[k].2 := ⟨_, rfl⟩
        rw [← hs] at x1 hfy
        have Hos2 := Lib.hid hos; have Hfy := Lib.hid hfy
        clear hos hfy he hs hkl ha
        go_wp2_with (first
          | (at_builtin; refine appendS rfl (.tmp 27) (.tmp 33) rfl w1 _ _ _ s rfl Hos2.out rfl Hlk.out ?_; intro v' w' hob; have Hob := Lib.hid hob; clear hob))
        exact ⟨⟨k + 1, by omega, by go_num, by rw [Hfy.out]; exact Hob.out⟩, by simp [intOf]; omega⟩
      · have hfn := filt_no hkl he
        have d0 : (ks[k].1 == 1) = false := by simpa using he
        have Hos2 := Lib.hid hos; have Hfn := Lib.hid hfn
        generalize ks[k].1 = k1 at *
        generalize ks[k].2 = s1 at *
        clear hos hfn he hkl ha
        go_wp2
        exact ⟨⟨k + 1, by omega, by go_num, by rw [Hfn.out]; exact Hos2.out⟩, by simp [intOf]; omega⟩
    · have hall : ks.take k = ks := List.take_of_length_le (by rw [← Hm.out]; omega)
      rw [hall] at hos
      obtain ⟨p2, cap2, hv, hS⟩ := hos.strs Hz.out
      have hX := HF.out p2 cap2 wr hS
      obtain ⟨n2, hn2⟩ : ∃ n2, n2 = (filt 1 ks).length := ⟨_, rfl⟩
      rw [← hn2] at hX hv
      subst hv
      have Hbw := Lib.hid (Hb.out.below (show Below w1.heap.size w1 wr from hos.2))
      have Hb2 := Lib.hid hos.2
      clear hos hS hall hn2
      go_wp2_with (first
        | (go_at_call 46; refine hX.mono ?_; rintro e w3 ⟨rfl, hb3⟩; have Hb3 := Lib.hid hb3; clear hb3; have Hbx := Lib.hid (Hbw.out.below Hb3.out))
        | ((with_reducible refine at_store ?_); refine wpList_store_row rfl 23 (.tmp 4) (.tmp 39) rfl _ _ rfl rfl _ _ Hbx.out (by kernel_rfl) (by kernel_rfl) (by kernel_rfl) ?_))
      exact bodyPost_ret (results_cell_row rfl _ _ w.heap.size 23 _ (0, 0) _ rfl (setRow_heap _ _ _ _ _ _ Hbx.out) rfl rfl (by kernel_rfl)) rfl ⟨rfl, below_setRow (below_trans (HB.out.trans (Hb2.out.mono HB.out.size)) Hb3.out) (Nat.le_refl _) _⟩

set_option maxRecDepth 100000 in
set_option maxHeartbeats 16000000 in
theorem freshKeys0 (p : Option Addr) (cap : Nat) (ks : List (Int × ByteArray)) (t : ByteArray) (hks : ks.length ≤ 60) (w : World) (hst : Keys w p ks)
    (hA : ∀ w2 : World, Below w.heap.size w w2 → Calls Tryd.prog 26 #[.int .i64 0, .slice p ks.length cap] w2 fun e w' => e = .returned (.agg #[.int .i64 0, .string t]) ∧ Below w2.heap.size w2 w')
    (hB : ∀ w2 : World, Below w.heap.size w w2 → Calls Tryd.prog 27 #[.int .i64 0, .slice p ks.length cap] w2 fun e w' => e = .returned (.agg #[.int .i64 0, .string t]) ∧ Below w2.heap.size w2 w')
    (hne : ∀ (k : Nat) (hk : k < ks.length), ∀ w, (binOp .eql 23 (.agg #[.int .i64 ks[k].1, .string ks[k].2]) (.agg #[.int .i64 0, .string t])).run Tryd.prog w = .ok (.bool false) w) :
    Calls Tryd.prog 8 #[.int .i64 0, .slice p ks.length cap] w fun e w' => e = .returned (.bool true) ∧ Below w.heap.size w w' := by
  have d60 : decide ((ks.length : Int) > 60) = false := by simp; omega
  have Hst := Lib.hid hst; clear hst
  obtain ⟨m, hm⟩ : ∃ m, m = ks.length := ⟨_, rfl⟩
  rw [← hm] at d60 hA hB ⊢
  have hmb : m ≤ 60 := by omega
  have Hm := Lib.hid hm
  have hA1 := hA w (Below.refl _ _)
  have HB := Lib.hid hB
  clear hm hks hA hB
  have hsame := run_eql_key_same
  go_enter Tryd.func8, Tryd.ntmps8
  go_upto_region 4 with (first
    | (go_at_call 26; refine hA1.mono ?_; rintro e w1 ⟨rfl, hb1⟩; have Hb1 := Lib.hid hb1; clear hb1))
  have Hbk := Lib.hid (Blk.new w1 0 t)
  have Hbl := Lib.hid (below_alloc Hb1.out (.cells #[.int .i64 0, .string t] 23))
  generalize w1.alloc (.cells #[.int .i64 0, .string t] 23) = w2 at *
  generalize w1.heap.size = b5 at *
  clear hA1
  go_wp2
  go_loopw [6] (fun i wr => ∃ k : Nat, k ≤ m ∧ i = .int .i64 k ∧ Blk b5 0 t wr ∧ Below w.heap.size w wr) (fun i _ => m - (intOf i).toNat)
  case atStart => exact ⟨0, by omega, rfl, Hbk.out, Hbl.out⟩
  case round =>
    obtain ⟨k, hk, rfl, hbk, hbl⟩ := hrel
    by_cases hlt : k < m
    · have hkl : k < ks.length := by rw [← Hm.out]; exact hlt
      obtain ⟨a, o, rfl, ha, x0, x1⟩ := (Hst.out.below (show Below w.heap.size w wr.drew from hbl.drew)).cell k hkl
      have y0 := (show Blk b5 0 t wr.drew from hbk).cell0
      have y1 := (show Blk b5 0 t wr.drew from hbk).cell1
      have hne := hne k hkl
      have Hbk2 := Lib.hid (show Blk b5 0 t wr.drew from hbk); have Hbl2 := Lib.hid hbl.drew
      generalize ks[k].1 = k1 at *
      generalize ks[k].2 = s1 at *
      clear hbk hbl hkl ha
      have _u := ()
      go_wp2_with (first
        | ((with_reducible refine Lex.at_region ?_); with_reducible refine Lex.wp_region_lex (by kernel_rfl) (by decide +kernel) ?_)
        | ((with_reducible refine Lex.at_fin ?_); with_reducible refine Lex.fin_on (by kernel_rfl) ?_))
      exact ⟨⟨k + 1, by omega, by go_num, Hbk2.out, Hbl2.out⟩, by simp [intOf]; omega⟩
    · have z0 := Lib.hid (show Blk b5 0 t wr.drew from hbk).cell0
      have y0 := (show Blk b5 0 t wr.drew from hbk).cell0
      have y1 := (show Blk b5 0 t wr.drew from hbk).cell1
      have Hbl2 := Lib.hid hbl.drew
      have hB1 := HB.out wr.drew Hbl2.out
      clear hbk hbl
      go_wp2_with (first
        | ((with_reducible refine Lex.at_finK ?_); refine LexK.finE_on (by kernel_rfl) (by repeat first | exact LexK.finL_nil | refine LexK.finL_none rfl ?_ | refine LexK.finL_skip (by decide +kernel) ?_ | refine LexK.finL_take rfl rfl z0.out ?_) ?_)
        | ((with_reducible refine Lex.at_region ?_); refine LexK.wp_region_lexE (fun b => b = b5) (by kernel_rfl) (by decide +kernel) ?_)
        | ((with_reducible refine Lex.at_wpX ?_); with_reducible refine LexK.wpX_plain (by decide +kernel) ?_)
        | ((with_reducible refine Lex.at_wpX ?_); with_reducible refine LexK.wpX_call ?_)
        | ((with_reducible refine Lex.at_wpX ?_); with_reducible refine LexK.wpX_nil ?_)
        | ((with_reducible refine Lex.at_ext ?_); with_reducible refine LexK.ext_on (LexK.Ext.of_below Hb3.out (Nat.le_refl _)) ?_)
        | ((with_reducible refine Lex.at_ext ?_); with_reducible refine LexK.ext_on (LexK.Ext.of_below Hb4.out (Nat.le_refl _)) ?_)
        | (go_at_call 27; refine hB1.mono ?_; rintro e w3 ⟨rfl, hb3⟩; have Hb3 := Lib.hid hb3; clear hb3)
        | (go_at_call 16; refine (awake_any _).mono ?_; rintro e w4 ⟨rfl, hb4⟩; have Hb4 := Lib.hid hb4; clear hb4))
      go_ret
      exact ⟨rfl, below_trans (below_trans Hbl2.out Hb3.out) Hb4.out⟩

set_option maxRecDepth 100000 in
set_option maxHeartbeats 16000000 in
theorem freshKeys1 (p : Option Addr) (cap : Nat) (ks : List (Int × ByteArray)) (t : ByteArray) (hks : ks.length ≤ 60) (w : World) (hst : Keys w p ks)
    (hA : ∀ w2 : World, Below w.heap.size w w2 → Calls Tryd.prog 26 #[.int .i64 1, .slice p ks.length cap] w2 fun e w' => e = .returned (.agg #[.int .i64 1, .string t]) ∧ Below w2.heap.size w2 w')
    (hB : ∀ w2 : World, Below w.heap.size w w2 → Calls Tryd.prog 27 #[.int .i64 1, .slice p ks.length cap] w2 fun e w' => e = .returned (.agg #[.int .i64 1, .string t]) ∧ Below w2.heap.size w2 w')
    (hne : ∀ (k : Nat) (hk : k < ks.length), ∀ w, (binOp .eql 23 (.agg #[.int .i64 ks[k].1, .string ks[k].2]) (.agg #[.int .i64 1, .string t])).run Tryd.prog w = .ok (.bool false) w) :
    Calls Tryd.prog 8 #[.int .i64 1, .slice p ks.length cap] w fun e w' => e = .returned (.bool true) ∧ Below w.heap.size w w' := by
  have d60 : decide ((ks.length : Int) > 60) = false := by simp; omega
  have Hst := Lib.hid hst; clear hst
  obtain ⟨m, hm⟩ : ∃ m, m = ks.length := ⟨_, rfl⟩
  rw [← hm] at d60 hA hB ⊢
  have hmb : m ≤ 60 := by omega
  have Hm := Lib.hid hm
  have hA1 := hA w (Below.refl _ _)
  have HB := Lib.hid hB
  clear hm hks hA hB
  have hsame := run_eql_key_same
  go_enter Tryd.func8, Tryd.ntmps8
  go_upto_region 4 with (first
    | (go_at_call 26; refine hA1.mono ?_; rintro e w1 ⟨rfl, hb1⟩; have Hb1 := Lib.hid hb1; clear hb1))
  have Hbk := Lib.hid (Blk.new w1 1 t)
  have Hbl := Lib.hid (below_alloc Hb1.out (.cells #[.int .i64 1, .string t] 23))
  generalize w1.alloc (.cells #[.int .i64 1, .string t] 23) = w2 at *
  generalize w1.heap.size = b5 at *
  clear hA1
  go_wp2
  go_loopw [6] (fun i wr => ∃ k : Nat, k ≤ m ∧ i = .int .i64 k ∧ Blk b5 1 t wr ∧ Below w.heap.size w wr) (fun i _ => m - (intOf i).toNat)
  case atStart => exact ⟨0, by omega, rfl, Hbk.out, Hbl.out⟩
  case round =>
    obtain ⟨k, hk, rfl, hbk, hbl⟩ := hrel
    by_cases hlt : k < m
    · have hkl : k < ks.length := by rw [← Hm.out]; exact hlt
      obtain ⟨a, o, rfl, ha, x0, x1⟩ := (Hst.out.below (show Below w.heap.size w wr.drew from hbl.drew)).cell k hkl
      have y0 := (show Blk b5 1 t wr.drew from hbk).cell0
      have y1 := (show Blk b5 1 t wr.drew from hbk).cell1
      have hne := hne k hkl
      have Hbk2 := Lib.hid (show Blk b5 1 t wr.drew from hbk); have Hbl2 := Lib.hid hbl.drew
      generalize ks[k].1 = k1 at *
      generalize ks[k].2 = s1 at *
      clear hbk hbl hkl ha
      have _u := ()
      go_wp2_with (first
        | ((with_reducible refine Lex.at_region ?_); with_reducible refine Lex.wp_region_lex (by kernel_rfl) (by decide +kernel) ?_)
        | ((with_reducible refine Lex.at_fin ?_); with_reducible refine Lex.fin_on (by kernel_rfl) ?_))
      exact ⟨⟨k + 1, by omega, by go_num, Hbk2.out, Hbl2.out⟩, by simp [intOf]; omega⟩
    · have z0 := Lib.hid (show Blk b5 1 t wr.drew from hbk).cell0
      have y0 := (show Blk b5 1 t wr.drew from hbk).cell0
      have y1 := (show Blk b5 1 t wr.drew from hbk).cell1
      have Hbl2 := Lib.hid hbl.drew
      have hB1 := HB.out wr.drew Hbl2.out
      clear hbk hbl
      go_wp2_with (first
        | ((with_reducible refine Lex.at_finK ?_); refine LexK.finE_on (by kernel_rfl) (by repeat first | exact LexK.finL_nil | refine LexK.finL_none rfl ?_ | refine LexK.finL_skip (by decide +kernel) ?_ | refine LexK.finL_take rfl rfl z0.out ?_) ?_)
        | ((with_reducible refine Lex.at_region ?_); refine LexK.wp_region_lexE (fun b => b = b5) (by kernel_rfl) (by decide +kernel) ?_)
        | ((with_reducible refine Lex.at_wpX ?_); with_reducible refine LexK.wpX_plain (by decide +kernel) ?_)
        | ((with_reducible refine Lex.at_wpX ?_); with_reducible refine LexK.wpX_call ?_)
        | ((with_reducible refine Lex.at_wpX ?_); with_reducible refine LexK.wpX_nil ?_)
        | ((with_reducible refine Lex.at_ext ?_); with_reducible refine LexK.ext_on (LexK.Ext.of_below Hb3.out (Nat.le_refl _)) ?_)
        | ((with_reducible refine Lex.at_ext ?_); with_reducible refine LexK.ext_on (LexK.Ext.of_below Hb4.out (Nat.le_refl _)) ?_)
        | (go_at_call 27; refine hB1.mono ?_; rintro e w3 ⟨rfl, hb3⟩; have Hb3 := Lib.hid hb3; clear hb3)
        | (go_at_call 16; refine (awake_any _).mono ?_; rintro e w4 ⟨rfl, hb4⟩; have Hb4 := Lib.hid hb4; clear hb4))
      go_ret
      exact ⟨rfl, below_trans (below_trans Hbl2.out Hb3.out) Hb4.out⟩

set_option maxRecDepth 100000 in
set_option maxHeartbeats 16000000 in
theorem freshKeysN (kind : Int) (d0 : (kind == 0) = false) (d1 : (kind == 1) = false) (p : Option Addr) (cap : Nat) (ks : List (Int × ByteArray)) (t : ByteArray) (hks : ks.length ≤ 60) (w : World) (hst : Keys w p ks)
    (hA : ∀ w2 : World, Below w.heap.size w w2 → Calls Tryd.prog 26 #[.int .i64 kind, .slice p ks.length cap] w2 fun e w' => e = .returned (.agg #[.int .i64 0, .string t]) ∧ Below w2.heap.size w2 w')
    (hB : ∀ w2 : World, Below w.heap.size w w2 → Calls Tryd.prog 27 #[.int .i64 kind, .slice p ks.length cap] w2 fun e w' => e = .returned (.agg #[.int .i64 0, .string t]) ∧ Below w2.heap.size w2 w')
    (heq : ∀ (k : Nat) (hk : k < ks.length), ∃ e : Bool, ∀ w, (binOp .eql 23 (.agg #[.int .i64 ks[k].1, .string ks[k].2]) (.agg #[.int .i64 0, .string t])).run Tryd.prog w = .ok (.bool e) w) :
    Calls Tryd.prog 8 #[.int .i64 kind, .slice p ks.length cap] w fun e w' => e = .returned (.bool true) ∧ Below w.heap.size w w' := by
  have d60 : decide ((ks.length : Int) > 60) = false := by simp; omega
  have Hst := Lib.hid hst; clear hst
  obtain ⟨m, hm⟩ : ∃ m, m = ks.length := ⟨_, rfl⟩
  rw [← hm] at d60 hA hB ⊢
  have hmb : m ≤ 60 := by omega
  have Hm := Lib.hid hm
  have hA1 := hA w (Below.refl _ _)
  have HB := Lib.hid hB
  clear hm hks hA hB
  have hsame := run_eql_key_same
  go_enter Tryd.func8, Tryd.ntmps8
  go_upto_region 4 with (first
    | (go_at_call 26; refine hA1.mono ?_; rintro e w1 ⟨rfl, hb1⟩; have Hb1 := Lib.hid hb1; clear hb1))
  have Hbk := Lib.hid (Blk.new w1 0 t)
  have Hbl := Lib.hid (below_alloc Hb1.out (.cells #[.int .i64 0, .string t] 23))
  generalize w1.alloc (.cells #[.int .i64 0, .string t] 23) = w2 at *
  generalize w1.heap.size = b5 at *
  clear hA1
  go_wp2
  go_loopw [6] (fun i wr => ∃ k : Nat, k ≤ m ∧ i = .int .i64 k ∧ Blk b5 0 t wr ∧ Below w.heap.size w wr) (fun i _ => m - (intOf i).toNat)
  case atStart => exact ⟨0, by omega, rfl, Hbk.out, Hbl.out⟩
  case round =>
    obtain ⟨k, hk, rfl, hbk, hbl⟩ := hrel
    by_cases hlt : k < m
    · have hkl : k < ks.length := by rw [← Hm.out]; exact hlt
      obtain ⟨a, o, rfl, ha, x0, x1⟩ := (Hst.out.below (show Below w.heap.size w wr.drew from hbl.drew)).cell k hkl
      have y0 := (show Blk b5 0 t wr.drew from hbk).cell0
      have y1 := (show Blk b5 0 t wr.drew from hbk).cell1
      obtain ⟨e, hne⟩ := heq k hkl
      have Hbk2 := Lib.hid (show Blk b5 0 t wr.drew from hbk); have Hbl2 := Lib.hid hbl.drew
      generalize ks[k].1 = k1 at *
      generalize ks[k].2 = s1 at *
      clear hbk hbl hkl ha
      cases e with
      | false =>
        go_wp2_with (first
          | ((with_reducible refine Lex.at_region ?_); with_reducible refine Lex.wp_region_lex (by kernel_rfl) (by decide +kernel) ?_)
          | ((with_reducible refine Lex.at_fin ?_); with_reducible refine Lex.fin_on (by kernel_rfl) ?_))
        exact ⟨⟨k + 1, by omega, by go_num, Hbk2.out, Hbl2.out⟩, by simp [intOf]; omega⟩
      | true =>
        go_wp2_with (first
          | ((with_reducible refine Lex.at_region ?_); with_reducible refine Lex.wp_region_lex (by kernel_rfl) (by decide +kernel) ?_)
          | ((with_reducible refine Lex.at_fin ?_); with_reducible refine Lex.fin_on (by kernel_rfl) ?_))
        exact ⟨⟨k + 1, by omega, by go_num, Hbk2.out, Hbl2.out⟩, by simp [intOf]; omega⟩
    · have z0 := Lib.hid (show Blk b5 0 t wr.drew from hbk).cell0
      have y0 := (show Blk b5 0 t wr.drew from hbk).cell0
      have y1 := (show Blk b5 0 t wr.drew from hbk).cell1
      have Hbl2 := Lib.hid hbl.drew
      have hB1 := HB.out wr.drew Hbl2.out
      clear hbk hbl
      go_wp2_with (first
        | ((with_reducible refine Lex.at_finK ?_); refine LexK.finE_on (by kernel_rfl) (by repeat first | exact LexK.finL_nil | refine LexK.finL_none rfl ?_ | refine LexK.finL_skip (by decide +kernel) ?_ | refine LexK.finL_take rfl rfl z0.out ?_) ?_)
        | ((with_reducible refine Lex.at_region ?_); refine LexK.wp_region_lexE (fun b => b = b5) (by kernel_rfl) (by decide +kernel) ?_)
        | ((with_reducible refine Lex.at_wpX ?_); with_reducible refine LexK.wpX_plain (by decide +kernel) ?_)
        | ((with_reducible refine Lex.at_wpX ?_); with_reducible refine LexK.wpX_call ?_)
        | ((with_reducible refine Lex.at_wpX ?_); with_reducible refine LexK.wpX_nil ?_)
        | ((with_reducible refine Lex.at_ext ?_); with_reducible refine LexK.ext_on (LexK.Ext.of_below Hb3.out (Nat.le_refl _)) ?_)
        | ((with_reducible refine Lex.at_ext ?_); with_reducible refine LexK.ext_on (LexK.Ext.of_below Hb4.out (Nat.le_refl _)) ?_)
        | (go_at_call 27; refine hB1.mono ?_; rintro e w3 ⟨rfl, hb3⟩; have Hb3 := Lib.hid hb3; clear hb3)
        | (go_at_call 16; refine (awake_any _).mono ?_; rintro e w4 ⟨rfl, hb4⟩; have Hb4 := Lib.hid hb4; clear hb4))
      go_ret
      exact ⟨rfl, below_trans (below_trans Hbl2.out Hb3.out) Hb4.out⟩

theorem fre_not (kind : Nat) (hk : kind ≤ 1) {ss : List ByteArray} (hss : ss.length ≤ 60) : fre kind (bys ss) ∉ bys ss := (freN_spec hk (used := bys ss) (by simp [bys]; exact hss)).2.1
theorem not_used (kind : Nat) (hk : kind ≤ 1) {ks : List (Int × ByteArray)} (hks : ks.length ≤ 60) : ∀ (k : Nat) (hk : k < ks.length), ∀ w, (binOp .eql 23 (.agg #[.int .i64 ks[k].1, .string ks[k].2]) (.agg #[.int .i64 kind, .string ⟨(fre kind (bys (filt kind ks))).toArray⟩])).run Tryd.prog w = .ok (.bool false) w := by
  intro k hkl w
  rw [run_eql_key]
  have hn := fre_not kind hk (ss := filt kind ks) (Nat.le_trans (filt_len _ _) hks)
  by_cases he : ks[k].1 = kind
  · have hm := filt_mem hkl he
    have : ks[k].2.toList ≠ (⟨(fre kind (bys (filt kind ks))).toArray⟩ : ByteArray).toList := by
      rw [← list_eq, ← list_eq]
      intro h
      have h2 : ks[k].2.data.toList = fre kind (bys (filt kind ks)) := h
      rw [h2] at hm
      exact hn hm
    have h3 : (ks[k].2.toList == (⟨(fre kind (bys (filt kind ks))).toArray⟩ : ByteArray).toList) = false := by rw [beq_eq_false_iff_ne]; exact this
    rw [h3, Bool.and_false]
  · have h3 : (ks[k].1 == (kind : Int)) = false := by rw [beq_eq_false_iff_ne]; exact he
    rw [h3, Bool.false_and]
set_option maxRecDepth 100000 in
set_option maxHeartbeats 8000000 in
theorem freshKeys_walk (kind : Int) (p : Option Addr) (cap : Nat) (ks : List (Int × ByteArray)) (w : World) (hst : Keys w p ks) (hmx : ks.length ≤ maxLen) :
    Calls Tryd.prog 8 #[.int .i64 kind, .slice p ks.length cap] w fun e w' => e = .returned (.bool true) ∧ Below w.heap.size w w' := by
  by_cases hks : ks.length ≤ 60
  · by_cases h0 : kind = 0
    · subst h0
      exact freshKeys0 p cap ks _ hks w hst (fun w2 h => freshKey0 p cap ks hks w2 (hst.below h)) (fun w2 h => refFreshKey0 p cap ks hks w2 (hst.below h)) (not_used 0 (by omega) hks)
    by_cases h1 : kind = 1
    · subst h1
      exact freshKeys1 p cap ks _ hks w hst (fun w2 h => freshKey1 p cap ks hks w2 (hst.below h)) (fun w2 h => refFreshKey1 p cap ks hks w2 (hst.below h)) (not_used 1 (by omega) hks)
    · exact freshKeysN kind (by simpa using h0) (by simpa using h1) p cap ks ⟨#[]⟩ hks w hst (fun w2 _ => freshKeyN kind h0 h1 _ w2) (fun w2 _ => refFreshKeyN kind h0 h1 _ w2) (fun k hk => ⟨_, fun w => run_eql_key w _ _ _ _⟩)
  · have d60 : decide ((ks.length : Int) > 60) = true := by simp; omega
    clear hst
    generalize ks.length = m at *
    go_enter Tryd.func8, Tryd.ntmps8
    go_wp2_with (first
      | (go_at_call 16; refine (awake_any _).mono ?_; rintro e w4 ⟨rfl, hb4⟩; have Hb4 := Lib.hid hb4; clear hb4))
    go_ret
    exact ⟨rfl, Hb4.out⟩
end Go.Proofs.YtejiagmfinhjbaaDoor
