/-
  Walks: the reference's store: Get, Keys, Put.
-/
import Derived.Test.YtmflngpgmmgohaaWb
import Derived.Test.YtmflngpgmmgohaaWc
import Derived.Test.YtmflngpgmmgohaaVc
namespace Go.Proofs.Ytmflngpgmmgohaa
open Go.RowKit Go.Sort Go.Names

/-- The reference's store in block r: its disk in block eb, its records in a row. -/
structure RA (w : World) (r eb : Nat) (v : Value) (L : List Rec) (R : RM) : Prop where
  blk : w.heap[r]? = some (.cells #[.pointer (some ⟨eb, 0, none⟩), v] 106)
  own : w.ownsRow 0 44 2 v L.length (recCells L)
  dk : w.heap[eb]? = some R.obj
  n1 : r ≠ eb
  n2 : v.ownBlock ≠ some r
  n3 : v.ownBlock ≠ some eb
theorem RA.below {w w' : World} {r eb : Nat} {v : Value} {L : List Rec} {R : RM} (h : RA w r eb v L R) (hb : Below w.heap.size w w') : RA w' r eb v L R :=
  ⟨(hb.block _ (heap_lt h.blk)).trans h.blk, ownsRow_below h.own hb (Nat.le_refl _), (hb.block _ (heap_lt h.dk)).trans h.dk, h.n1, h.n2, h.n3⟩
theorem RA.drew {w : World} {r eb : Nat} {v : Value} {L : List Rec} {R : RM} (h : RA w r eb v L R) : RA w.drew r eb v L R := ⟨h.blk, h.own, h.dk, h.n1, h.n2, h.n3⟩
theorem RA.upd {w w' : World} {r eb : Nat} {v : Value} {L : List Rec} {R R' : RM} (h : RA w r eb v L R) (hu : Upd eb R'.obj w w') : RA w' r eb v L R' := by
  refine ⟨(hu.other _ h.n1).trans h.blk, ?_, hu.blk, h.n1, h.n2, h.n3⟩
  exact h.own.kept (row := some eb) ⟨hu.os, hu.tape, hu.output, by rw [hu.size]; exact Nat.le_refl _, fun k _ hk => hu.other k (fun e => hk (by rw [e]))⟩ (Or.inr h.n3)
theorem RA.cells {w : World} {r eb : Nat} {v : Value} {L : List Rec} {R : RM} (h : RA w r eb v L R) :
    w.cell? ⟨r, 0, none⟩ = some (.pointer (some ⟨eb, 0, none⟩)) ∧ w.cell? ⟨r, 1, none⟩ = some v ∧ ∀ i, w.frozen? ⟨r, i, none⟩ = false := by
  simp [World.cell?, World.frozen?, h.blk]

set_option maxRecDepth 100000 in
set_option maxHeartbeats 8000000 in
theorem refget_any (r eb : Nat) (v : Value) (L : List Rec) (R : RM) (key : ByteArray) (w : World) (h : RA w r eb v L R) (hl : L.length ≤ 1048576) :
    Calls Try.prog 43 #[.pointer (some ⟨r, 0, none⟩), .string key] w fun e w' => e = .returned (.tuple #[.string (cur L key), .bool (decide (¬ cur L key = ⟨#[]⟩))]) ∧ Below w.heap.size w w' := by
  obtain ⟨c0, c1, fz⟩ := h.cells
  obtain ⟨p, cap, rfl⟩ := own_slice h.own
  have H := Lib.hid h; clear h
  obtain ⟨CV, hCV⟩ : ∃ x, x = cur L key := ⟨_, rfl⟩
  rw [← hCV]
  obtain ⟨RB, hRB⟩ : ∃ x, x = decide (¬ CV = ⟨#[]⟩) := ⟨_, rfl⟩
  rw [← hRB]
  have HCV := Lib.hid hCV; clear hCV
  have HRB := Lib.hid hRB; clear hRB
  go_enter Try.func43, Try.ntmps43
  go_wp2
  go_loopw [6, 14] (fun d i wr => ∃ k : Nat, i = .int .i64 k ∧ k ≤ L.length ∧ d = .string (cur (L.take k) key) ∧ Below w.heap.size w wr) (fun _ i _ => L.length - (intOf i).toNat)
  case atStart => exact ⟨0, rfl, by omega, rfl, Below.refl _ _⟩
  case round =>
    obtain ⟨k, rfl, hk, rfl, hbl⟩ := hrel
    by_cases hlt : k < L.length
    · have o := (H.out.below hbl).own
      obtain ⟨g, rfl⟩ := own_ptr o (by omega)
      obtain ⟨x0, x1⟩ := own_cells o hlt
      have hs := cur_snoc (L.take k) L[k] key
      rw [← List.take_succ_eq_append_getElem hlt] at hs
      generalize L[k] = rc at *
      obtain ⟨k1, d1⟩ := rc
      dsimp only at x0 x1 hs
      clear o
      generalize cur (L.take k) key = cv at *
      generalize hcn : cur (L.take (k + 1)) key = cn at *
      have Hcn := Lib.hid hcn; clear hcn
      have Hbl := Lib.hid hbl; clear hbl
      by_cases he : k1 = key
      · rw [if_pos he] at hs
        subst hs
        have hb := beq_yes he
        clear he
        go_wp2
        exact ⟨⟨k + 1, by go_num, by omega, by rw [Hcn.out], Hbl.out.alloc Hbl.out.size _⟩, by simp [intOf]; omega⟩
      · rw [if_neg he] at hs
        subst hs
        have hb := beq_no he
        clear he
        go_wp2
        exact ⟨⟨k + 1, by go_num, by omega, by rw [Hcn.out], Hbl.out.alloc Hbl.out.size _⟩, by simp [intOf]; omega⟩
    · obtain rfl : k = L.length := by omega
      rw [List.take_length, ← HCV.out]
      by_cases he : CV = ⟨#[]⟩
      · have hb := isEmpty_yes he
        have Hr := Lib.hid (show RB = false by rw [HRB.out]; simp [he])
        clear he
        go_wp2
        go_ret2
        exact ⟨by rw [Hr.out]; rfl, hbl⟩
      · have hb := isEmpty_no he
        have Hr := Lib.hid (show RB = true by rw [HRB.out]; simp [he])
        clear he
        go_wp2
        go_ret2
        exact ⟨by rw [Hr.out]; rfl, hbl⟩

set_option maxRecDepth 100000 in
theorem refset_any (p : Option Addr) (cap : Nat) (L : List Nm) (hl : L.length ≤ 100000) (w : World) (hS : SL w p L) :
    Calls Try.prog 79 #[.slice p L.length cap] w fun e w' => ∃ v, e = .returned v ∧ OS w.heap.size w' v (nrm L) ∧ Below w.heap.size w w' := by
  have h := sorted_any p cap L hl w hS
  go_enter Try.func79, Try.ntmps79
  go_wp2_with (first
    | (go_at_call 87; refine h.mono ?_; rintro e w1 ⟨v, rfl, ho, hb⟩; have Ho := Lib.hid ho; clear ho))
  go_ret
  exact ⟨v, rfl, Ho.out, hb⟩

def KP (L : List Rec) (k : Nat) : List Nm := ((L.take k).filter fun r => decide (¬ cur L r.1 = ⟨#[]⟩)).map fun r => r.1.data.toList
theorem KP_len (L : List Rec) (k : Nat) : (KP L k).length ≤ k := by
  unfold KP
  rw [List.length_map]
  exact Nat.le_trans (List.length_filter_le _ _) (by simp; omega)
theorem KP_take {L : List Rec} {k : Nat} (h : k < L.length) : KP L (k + 1) = if cur L L[k].1 = ⟨#[]⟩ then KP L k else KP L k ++ [L[k].1.data.toList] := by
  unfold KP
  rw [List.take_succ_eq_append_getElem h, List.filter_append, List.map_append]
  by_cases hc : cur L L[k].1 = ⟨#[]⟩
  · simp [hc]
  · simp [hc]

set_option maxRecDepth 100000 in
set_option maxHeartbeats 8000000 in
theorem refkeys_any (r eb : Nat) (v : Value) (L : List Rec) (R : RM) (w : World) (h : RA w r eb v L R) (hl : L.length ≤ 100000) (hz : ∀ x ∈ L, x.1.size ≤ maxLen) :
    Calls Try.prog 69 #[.pointer (some ⟨r, 0, none⟩)] w fun e w' => ∃ v', e = .returned v' ∧ OS w.heap.size w' v' (KL L) ∧ Below w.heap.size w w' := by
  obtain ⟨c0, c1, fz⟩ := h.cells
  obtain ⟨p, cap, rfl⟩ := own_slice h.own
  have H := Lib.hid h; clear h
  have hKL : KL L = nrm (KP L L.length) := by unfold KL KP; rw [List.take_length]
  rw [hKL]
  have hSt := fun p c w (hS : SL w p (KP L L.length)) => refset_any p c (KP L L.length) (Nat.le_trans (KP_len L _) (by omega)) w hS
  clear hKL
  generalize nrm (KP L L.length) = NK at *
  go_enter Try.func69, Try.ntmps69
  go_wp2
  go_loopw [3, 13] (fun d i wr => ∃ k : Nat, i = .int .i64 k ∧ k ≤ L.length ∧ OS w.heap.size wr d (KP L k) ∧ Below w.heap.size w wr) (fun _ i _ => L.length - (intOf i).toNat)
  case atStart => exact ⟨0, rfl, by omega, OS.nil _ _, Below.refl _ _⟩
  case round =>
    obtain ⟨k, rfl, hk, hos, hbl⟩ := hrel
    by_cases hlt : k < L.length
    · have o := (H.out.below hbl).own
      obtain ⟨g, rfl⟩ := own_ptr o (by omega)
      obtain ⟨x0, x1⟩ := own_cells o hlt
      have hs := KP_take hlt
      have hkl := KP_len L k
      have hkz := hz L[k] (List.getElem_mem hlt)
      have hg := fun w h => refget_any r eb (.slice (some ⟨g, 0, none⟩) L.length cap) L R L[k].1 w h (by omega)
      generalize hcc : cur L L[k].1 = cv at *
      generalize L[k] = rc at *
      obtain ⟨k1, d1⟩ := rc
      dsimp only at x0 x1 hs hkz hg
      obtain ⟨y, rfl⟩ : ∃ y, k1 = toB y := ⟨k1.data.toList, rfl⟩
      rw [toB_list] at hs
      clear o hcc
      have hyz : y.length ≤ maxLen := by have h7 : y.toArray.size ≤ maxLen := hkz; simpa using h7
      generalize hKk : KP L k = Kk at *
      generalize hKn : KP L (k + 1) = Kn at *
      clear hKk
      have HKn := Lib.hid hKn; clear hKn
      have Hbl := Lib.hid hbl; clear hbl
      have Hos := Lib.hid hos; clear hos
      have hxw : Below wr.heap.size wr (wr.alloc (.cells #[.string (toB y), .string d1] 44)) := (Below.refl _ _).alloc (Nat.le_refl _) _
      have hx0 := heap_alloc_new wr (.cells #[.string (toB y), .string d1] 44)
      have Hxw := Lib.hid hxw; clear hxw
      have Hx0 := Lib.hid hx0; clear hx0
      by_cases he : cv = ⟨#[]⟩
      · rw [if_pos he] at hs
        have hb := isEmpty_yes he
        have hd : decide (¬ cv = ⟨#[]⟩) = false := by simp [he]
        rw [hd] at hg
        clear hd he
        have Hs := Lib.hid hs; clear hs
        generalize hsy : toB y = sy at *
        go_wp2_with (first
          | (go_at_call 43; refine (hg _ ((H.out.below Hbl.out).below Hxw.out)).mono ?_; rintro e w2 ⟨rfl, hb2⟩))
        have e2 := Hxw.out.step hb2
        exact ⟨⟨k + 1, by go_num, by omega, by rw [HKn.out, Hs.out]; exact Hos.out.below e2, Hbl.out.step e2⟩, by simp [intOf]; omega⟩
      · rw [if_neg he] at hs
        have hb := isEmpty_no he
        have hd : decide (¬ cv = ⟨#[]⟩) = true := by simp [he]
        rw [hd] at hg
        clear hd he
        have Hs := Lib.hid hs; clear hs
        have hwl := Hbl.out.size
        have HK1 := Lib.hid (show Kk.length ≤ 1000000 by omega)
        go_wp2_with (first
          | (go_at_call 43; refine (hg _ ((H.out.below Hbl.out).below Hxw.out)).mono ?_; rintro e w2 ⟨rfl, hb2⟩; have q0 : w2.cell? ⟨wr.heap.size, 0, none⟩ = some (.string (toB y)) := cell_of_row _ _ _ _ _ _ ((hb2.block _ (heap_lt Hx0.out)).trans Hx0.out); have He2 := Lib.hid (Hxw.out.step hb2); have HO2 := Lib.hid (Hos.out.below He2.out); have HB2 := Lib.hid (Hbl.out.step He2.out))
          | (at_builtin; refine wpList_append_name rfl (.tmp 26) (.tmp 29) rfl w.heap.size w2 HB2.out.size y hyz _ _ rfl HO2.out HK1.out rfl ?_; intro v3 w3 ho3 hb3; have Ho3 := Lib.hid ho3; clear ho3))
        exact ⟨⟨k + 1, by go_num, by omega, by rw [HKn.out, Hs.out]; exact Ho3.out, hb3 _ HB2.out⟩, by simp [intOf]; omega⟩
    · obtain rfl : k = L.length := by omega
      obtain ⟨q, c, rfl, _⟩ := hos.cut
      have Hos := Lib.hid hos; clear hos
      go_wp2_with (first
        | (go_at_call 79; refine (hSt _ _ _ Hos.out.sl).mono ?_; rintro e w3 ⟨v3, rfl, ho3, hb3⟩; have Ho3 := Lib.hid ho3; clear ho3))
      go_ret
      exact ⟨v3, rfl, OS.base Ho3.out hbl.size, hbl.step hb3⟩
end Go.Proofs.Ytmflngpgmmgohaa
