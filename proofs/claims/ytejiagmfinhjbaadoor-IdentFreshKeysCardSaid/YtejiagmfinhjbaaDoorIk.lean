/-
  Walks: the reference's Quote, Unquote; the law of quotes.
-/
import Derived.Test.YtejiagmfinhjbaaDoorIi
namespace Go.Proofs.YtejiagmfinhjbaaDoor
open Go.RowKit Go.Ident

/-- Bytes that the call has gathered. -/
def OB (W0 : World) (v : Value) (l : List UInt8) (w : World) : Prop := Lib.OwnBuf W0.heap.size 5 v l.length (Lib.byteCells l) W0 w
theorem OB.nil {W0 w : World} (h : Below W0.heap.size W0 w) : OB W0 (.slice none 0 0) [] w := ⟨World.ownsRowF_nil _ _ _ _, h, h.size⟩
theorem OB.below {W0 w : World} {v : Value} {l : List UInt8} (h : OB W0 v l w) : Below W0.heap.size W0 w := h.2.1
theorem OB.drew {W0 w : World} {v : Value} {l : List UInt8} (h : OB W0 v l w) : OB W0 v l w.drew := h.drewN 1
theorem OB.lit {W0 w : World} (h : Below W0.heap.size W0 w) (l : List UInt8) (cells : Array Value) (hc : cells.toList = Lib.byteCells l) (hl : l.length ≤ 1000000) :
    OB W0 (.slice (some ⟨w.heap.size, 0, none⟩) l.length l.length) l (w.alloc (.cells cells 5)) := by
  have hs : cells.size = l.length * 1 := by rw [← Array.length_toList, hc, Lib.byteCells_length]; omega
  have := World.ownsRow_lit (e := 5) (size := 1) w cells l.length h.size (by unfold maxLen; omega) hs
  rw [hc] at this
  exact ⟨World.ownsRowF_of this, h.alloc h.size _, Nat.le_trans h.size (by simp)⟩
theorem OB.conv {W0 w : World} {v : Value} {l : List UInt8} (h : OB W0 v l w) : (convert 52 9 v).run Tryd.prog w = .ok (.string ⟨l.toArray⟩) w := by
  obtain ⟨⟨hl, h⟩, _, _⟩ := h
  rcases h with ⟨rfl, h0⟩ | ⟨g, cap, cur, fz, rfl, _, hg, _, _, _, _, htk⟩
  · obtain rfl := List.eq_nil_of_length_eq_zero h0
    exact Lib.run_convert_nil_bytes w 52 9 5 0 (by kernel_rfl) (by kernel_rfl) (by kernel_rfl)
  · exact run_convert_bytes_back w 52 9 5 _ cap l (by kernel_rfl) (by kernel_rfl) (by kernel_rfl) (Lib.bytes_of_row hg (by rw [Nat.mul_one] at htk; exact htk))
theorem append_bytes {ops : Array Oper} {rest : List Oper} {o : Oper} {a : Act} {Q : Exit → Act → World → Prop} (hgd : o.guard = none) (s x : Operand)
    (ho : o.op = .call { callee := .builtin .append, args := #[s, x], argTypes := #[52, 52] }) (W0 w0 : World) (v : Value) (l cs : List UInt8) (cells : Array Value) (hc : cells.toList = Lib.byteCells cs)
    (hs : a.eval s = v) (hb : OB W0 v l w0) (n : Nat) (hn : n = cs.length) (hx : a.eval x = .slice (some ⟨w0.heap.size, 0, none⟩) n n) (hlen : l.length + cs.length ≤ 100000000)
    (h : ∀ v' w', OB W0 v' (l ++ cs) w' → wpList Tryd.prog ops Q rest (a.put o.dst v') w') : wpList Tryd.prog ops Q (o :: rest) a (w0.alloc (.cells cells 5)) := by
  subst hn
  obtain ⟨i0, hi0, hz0, hz1, hz2⟩ := info_parts u8_info
  have hb' := Lib.OwnBuf.alloc hb (.cells cells 5)
  refine wpList_append_ownF _ hgd s x 52 ho W0.heap.size 5 i0 (.int .u8 0) 1 1 (by kernel_rfl) hi0 hz0 hz1 hz2 rfl (by decide) v l.length _ hs hb'.1 ⟨w0.heap.size, 0, none⟩ cs.length cs.length (Lib.byteCells cs) hx (by rw [Lib.byteCells_length]; omega) ?_ (cells_one cs) (by unfold maxLen; omega) (by omega) hb'.2.2 ?_
  · intro j u hj
    rw [Lib.addr_add, Nat.zero_add, cell_of_row _ _ _ _ _ _ (heap_alloc_new _ _), ← Array.getElem?_toList, hc]
    exact hj
  · intro v' w' ho' hg _
    refine h v' w' ?_
    have := hb'.grown ho' hg
    unfold OB
    rw [List.length_append, Lib.byteCells_append]
    exact this

theorem q1_len (c : UInt8) : (q1 c).length ≤ 4 := by unfold q1; split <;> (try split) <;> simp

set_option maxRecDepth 100000 in
set_option maxHeartbeats 8000000 in
theorem refQuote_any (s : ByteArray) (hs : s.size ≤ 1000000) (w : World) : Calls Tryd.prog 19 #[.string s] w fun e w' => e = .returned (.string ⟨(quo s.data.toList).toArray⟩) ∧ Below w.heap.size w w' := by
  have hL := OB.lit (Below.refl w.heap.size w) [34] #[.int .u8 34] rfl (by simp)
  have HL := Lib.hid hL; clear hL
  go_enter Tryd.func19, Tryd.ntmps19
  go_wp2
  go_loopw [4, 5] (fun v i wr => ∃ k : Nat, k ≤ s.size ∧ i = .int .i64 k ∧ OB w v (34 :: flat (s.data.toList.take k)) wr) (fun _ i _ => s.size - (intOf i).toNat)
  case atStart => exact ⟨0, by omega, rfl, HL.out⟩
  case round =>
    obtain ⟨k, hk, rfl, hq⟩ := hrel
    have Hq := Lib.hid hq; clear hq
    by_cases hlt : k < s.size
    · have hl := Lib.hid (flat_take_len s k hs)
      have hft := Lib.hid (flat_take hlt)
      have hc256 := s[k].toNat_lt
      have hql := q1_len s[k]
      by_cases hE : s[k].toNat = 34 ∨ s[k].toNat = 92
      · have hq : q1 s[k] = [92, s[k]] := by
          unfold q1
          rw [if_pos]
          rcases hE with h | h
          · exact .inl (UInt8.toNat_inj.1 h)
          · exact .inr (UInt8.toNat_inj.1 h)
        have Hft := Lib.hid (hft.out.trans (by rw [hq])); clear hq hft hql
        by_cases h34 : s[k].toNat = 34
        · have d34 : ((s[k].toNat : Int) == 34) = true := by simp; omega
          clear h34 hE
          go_wp2_with (first
            | (at_builtin; refine append_bytes rfl (.tmp 35) (.tmp 37) rfl w wr _ _ [92, s[k]] _ rfl rfl Hq.out 2 rfl rfl (by have := hl.out; simp only [List.length_cons, List.length_nil] at this ⊢; omega) ?_; intro v' w' hob; have Hob := Lib.hid hob; clear hob))
          exact ⟨⟨k + 1, by omega, by go_num, by rw [Hft.out]; exact Hob.out⟩, by simp [intOf]; omega⟩
        · have d34 : ((s[k].toNat : Int) == 34) = false := by simp; omega
          have d92 : ((s[k].toNat : Int) == 92) = true := by simp; omega
          clear h34 hE
          go_wp2_with (first
            | (at_builtin; refine append_bytes rfl (.tmp 35) (.tmp 37) rfl w wr _ _ [92, s[k]] _ rfl rfl Hq.out 2 rfl rfl (by have := hl.out; simp only [List.length_cons, List.length_nil] at this ⊢; omega) ?_; intro v' w' hob; have Hob := Lib.hid hob; clear hob))
          exact ⟨⟨k + 1, by omega, by go_num, by rw [Hft.out]; exact Hob.out⟩, by simp [intOf]; omega⟩
      have d34 : ((s[k].toNat : Int) == 34) = false := by simp; omega
      have d92 : ((s[k].toNat : Int) == 92) = false := by simp; omega
      have hq : q1 s[k] = if 32 ≤ s[k].toNat ∧ s[k].toNat ≤ 126 then [s[k]] else [92, 120, hexD (s[k] >>> 4), hexD (s[k] &&& 15)] := by
        unfold q1
        rw [if_neg]
        · simp only [UInt8.le_iff_toNat_le]; rfl
        · rintro (h | h) <;> rw [h] at hE <;> exact hE (by decide)
      by_cases hP : 32 ≤ s[k].toNat ∧ s[k].toNat ≤ 126
      · rw [if_pos hP] at hq
        have Hft := Lib.hid (hft.out.trans (by rw [hq])); clear hq hft hql
        have d32 : decide ((s[k].toNat : Int) ≥ 32) = true := by simp; omega
        have d126 : decide ((s[k].toNat : Int) ≤ 126) = true := by simp; omega
        clear hE hP
        go_wp2_with (first
          | (at_builtin; refine append_bytes rfl (.tmp 46) (.tmp 48) rfl w wr _ _ [s[k]] _ rfl rfl Hq.out 1 rfl rfl (by have := hl.out; simp only [List.length_cons, List.length_nil] at this ⊢; omega) ?_; intro v' w' hob; have Hob := Lib.hid hob; clear hob))
        exact ⟨⟨k + 1, by omega, by go_num, by rw [Hft.out]; exact Hob.out⟩, by simp [intOf]; omega⟩
      rw [if_neg hP] at hq
      have Hft := Lib.hid (hft.out.trans (by rw [hq])); clear hq hft hql
      have hb16 : s[k].toNat / 16 < 16 := by omega
      have hm16 : s[k].toNat % 16 < 16 := by omega
      have ha := and15 s[k].toNat hc256
      by_cases h32 : 32 ≤ s[k].toNat
      · have d32 : decide ((s[k].toNat : Int) ≥ 32) = true := by simp; omega
        have d126 : decide ((s[k].toNat : Int) ≤ 126) = false := by simp; omega
        clear hE hP h32
        go_wp2_with (first
          | ((with_reducible refine Lex.at_region ?_); with_reducible refine Lex.wp_region_lex (by kernel_rfl) (by decide +kernel) ?_)
          | ((with_reducible refine Lex.at_fin ?_); with_reducible refine Lex.fin_on (by kernel_rfl) ?_)
          | (at_builtin; refine append_bytes rfl (.tmp 17) (.tmp 26) rfl w wr.drew _ _ [92, 120, hexD (s[k] >>> 4), hexD (s[k] &&& 15)] _ (by simp only [Lib.byteCells, List.map_cons, List.map_nil, ← hex_hi _ hb16, ← hex_lo _ hm16]; rfl) rfl Hq.out.drew 4 rfl rfl (by have := hl.out; simp only [List.length_cons, List.length_nil] at this ⊢; omega) ?_; intro v' w' hob; have Hob := Lib.hid hob; clear hob))
        exact ⟨⟨k + 1, by omega, by go_num, by rw [Hft.out]; exact Hob.out⟩, by simp [intOf]; omega⟩
      · have d32 : decide ((s[k].toNat : Int) ≥ 32) = false := by simp; omega
        clear hE hP h32
        go_wp2_with (first
          | ((with_reducible refine Lex.at_region ?_); with_reducible refine Lex.wp_region_lex (by kernel_rfl) (by decide +kernel) ?_)
          | ((with_reducible refine Lex.at_fin ?_); with_reducible refine Lex.fin_on (by kernel_rfl) ?_)
          | (at_builtin; refine append_bytes rfl (.tmp 17) (.tmp 26) rfl w wr.drew _ _ [92, 120, hexD (s[k] >>> 4), hexD (s[k] &&& 15)] _ (by simp only [Lib.byteCells, List.map_cons, List.map_nil, ← hex_hi _ hb16, ← hex_lo _ hm16]; rfl) rfl Hq.out.drew 4 rfl rfl (by have := hl.out; simp only [List.length_cons, List.length_nil] at this ⊢; omega) ?_; intro v' w' hob; have Hob := Lib.hid hob; clear hob))
        exact ⟨⟨k + 1, by omega, by go_num, by rw [Hft.out]; exact Hob.out⟩, by simp [intOf]; omega⟩
    · obtain rfl : k = s.size := by omega
      have hall : s.data.toList.take s.size = s.data.toList := List.take_of_length_le (by show s.data.toList.length ≤ s.data.size; simp)
      have hl := flat_take_len s s.size hs
      rw [hall] at hl
      have hob0 := Hq.out
      rw [hall] at hob0
      have Hl := Lib.hid hl; have Hob0 := Lib.hid hob0; clear hl hob0
      go_wp2_with (first
        | (at_builtin; refine append_bytes rfl (.tmp 50) (.tmp 51) rfl w wr _ _ [34] _ rfl rfl Hob0.out 1 rfl rfl (by have := Hl.out; simp only [List.length_cons, List.length_nil] at this ⊢; omega) ?_; intro v' w' hob; have hcv := hob.conv; have Hob := Lib.hid hob; clear hob))
      go_ret
      exact ⟨rfl, Hob.out.below⟩
end Go.Proofs.YtejiagmfinhjbaaDoor
