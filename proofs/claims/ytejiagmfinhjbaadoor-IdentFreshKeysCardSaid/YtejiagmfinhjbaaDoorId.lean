/-
  Walks: Quote.
-/
import Derived.Test.YtejiagmfinhjbaaDoorIc
import Derived.Test.YtejiagmfinhjbaaDoorShp
namespace Go.Proofs.YtejiagmfinhjbaaDoor
open Go.RowKit Go.Ident

theorem below_drewN {B : Nat} {a w : World} (h : Below B a w) (n : Nat) : Below B a (w.drewN n) := ⟨h.os, h.tape, h.output, h.size, h.block⟩
abbrev Buf (B b : Nat) (l : List UInt8) (w : World) : Prop := Lib.IsBuffer 56 5 B b (Lib.byteCells l) w
theorem cells_one (l : List UInt8) : ∀ v ∈ Lib.byteCells l, v.oneCell' = true := by
  intro v hv
  obtain ⟨c, _, rfl⟩ := List.mem_map.1 hv
  rfl
theorem wbyte (B b : Nat) (l : List UInt8) (c : UInt8) (x : Int) (hx : x = c.toNat) (w : World) (h : Buf B b l w) (hB : B ≤ w.heap.size) (hl : l.length ≤ 10000000) :
    Calls Tryd.prog 39 #[.pointer (some ⟨b, 0, none⟩), .int .u8 x] w fun e w' => e = .returned .nilIface ∧ Buf B b (l ++ [c]) w' ∧ Below B w w' := by
  subst hx
  have := Tryd.Buffer_WriteByte B b _ c.toNat w h hB (cells_one l) (by rw [Lib.byteCells_length]; omega)
  simpa [Buf, Lib.byteCells] using this
theorem wstr (B b : Nat) (l : List UInt8) (s : ByteArray) (w : World) (h : Buf B b l w) (hB : B ≤ w.heap.size) (hl : l.length ≤ 10000000) (hs : s.size ≤ 10000000) :
    Calls Tryd.prog 40 #[.pointer (some ⟨b, 0, none⟩), .string s] w fun e w' => e = .returned (.tuple #[.int .i64 s.size, .nilIface]) ∧ Buf B b (l ++ s.data.toList) w' ∧ Below B w w' := by
  have := Tryd.Buffer_WriteString B b _ s w h hB (cells_one l) (by rw [Lib.byteCells_length]; omega)
  simpa [Buf, Lib.byteCells] using this
/-- What the loop of Quote has. -/
structure QI (w : World) (s : ByteArray) (k : Nat) (wr : World) : Prop where
  buf : Buf w.heap.size w.heap.size (34 :: flat (s.data.toList.take k)) wr
  below : Below w.heap.size w wr
theorem flat_take {s : ByteArray} {k : Nat} (h : k < s.size) : 34 :: flat (s.data.toList.take (k + 1)) = (34 :: flat (s.data.toList.take k)) ++ q1 s[k] := by
  rw [List.take_succ_eq_append_getElem (show k < s.data.toList.length by show _ < s.data.toList.length; simpa using h), flat_snoc]
  rfl
theorem flat_take_len (s : ByteArray) (k : Nat) (hs : s.size ≤ 1000000) : (34 :: flat (s.data.toList.take k)).length ≤ 4000001 := by
  have := flat_len (s.data.toList.take k)
  have h2 : (s.data.toList.take k).length ≤ s.size := by
    have : s.data.toList.length = s.size := by show _ = s.data.size; simp
    simp; omega
  simp; omega

theorem hex_at : ∀ n : Fin 16, (⟨#[48, 49, 50, 51, 52, 53, 54, 55, 56, 57, 97, 98, 99, 100, 101, 102]⟩ : ByteArray)[n.val]'(n.isLt) = hexD (UInt8.ofNat n.val) := by decide +kernel
theorem hex_hi (c : UInt8) (h : c.toNat / 16 < (⟨#[48, 49, 50, 51, 52, 53, 54, 55, 56, 57, 97, 98, 99, 100, 101, 102]⟩ : ByteArray).size) :
    (((⟨#[48, 49, 50, 51, 52, 53, 54, 55, 56, 57, 97, 98, 99, 100, 101, 102]⟩ : ByteArray)[c.toNat / 16]'h).toNat : Int) = (hexD (c >>> 4)).toNat := by
  have := hex_at ⟨c.toNat / 16, h⟩
  rw [show c >>> 4 = UInt8.ofNat (c.toNat / 16) from UInt8.toNat_inj.1 (by simp [Nat.shiftRight_eq_div_pow]; have := c.toNat_lt; omega)]
  rw [← this]
theorem hex_lo (c : UInt8) (h : c.toNat % 16 < (⟨#[48, 49, 50, 51, 52, 53, 54, 55, 56, 57, 97, 98, 99, 100, 101, 102]⟩ : ByteArray).size) :
    (((⟨#[48, 49, 50, 51, 52, 53, 54, 55, 56, 57, 97, 98, 99, 100, 101, 102]⟩ : ByteArray)[c.toNat % 16]'h).toNat : Int) = (hexD (c &&& 15)).toNat := by
  have := hex_at ⟨c.toNat % 16, h⟩
  rw [show c &&& 15 = UInt8.ofNat (c.toNat % 16) from UInt8.toNat_inj.1 (by
    have h0 : (15 : UInt8).toNat = 2 ^ 4 - 1 := rfl
    rw [UInt8.toNat_and, h0, Nat.and_two_pow_sub_one_eq_mod]
    simp; omega)]
  rw [← this]
theorem and15 : ∀ k : Nat, k < 256 → bits BinOp.and IntKind.u8 (k : Int) 15 = ((k % 16 : Nat) : Int) := by decide +kernel
theorem QI.next {w wr w2 : World} {s : ByteArray} {k : Nat} {c : UInt8} {l : List UInt8} (h : QI w s k wr) (hft : 34 :: flat (s.data.toList.take (k + 1)) = (34 :: flat (s.data.toList.take k)) ++ q1 c) (hq : q1 c = l)
    (hb : Buf w.heap.size w.heap.size ((34 :: flat (s.data.toList.take k)) ++ l) w2) (hw : Below w.heap.size wr w2) : QI w s (k + 1) w2 := by
  subst hq
  exact ⟨by rw [hft]; exact hb, h.below.trans hw⟩
theorem app2 (a : List UInt8) (b c : UInt8) : a ++ [b] ++ [c] = a ++ [b, c] := by simp
theorem app4 (a : List UInt8) (b c d e : UInt8) : a ++ (⟨#[b, c]⟩ : ByteArray).data.toList ++ [d] ++ [e] = a ++ [b, c, d, e] := by simp

set_option maxRecDepth 100000 in
set_option maxHeartbeats 8000000 in
theorem quote_any (s : ByteArray) (hs : s.size ≤ 1000000) (w : World) : Calls Tryd.prog 17 #[.string s] w fun e w' => e = .returned (.string ⟨(quo s.data.toList).toArray⟩) ∧ Below w.heap.size w w' := by
  have hf := Lib.fresh_isBuffer 56 5 w
  have hB := (Below.refl w.heap.size w).alloc (Nat.le_refl _) (.cells #[.slice none 0 0, .int .i64 0, .int .i8 0] 56)
  have Hf := Lib.hid hf; clear hf
  have HB := Lib.hid hB; clear hB
  go_enter Tryd.func17, Tryd.ntmps17
  go_wp2_with (first
    | (go_at_call 39; refine (wbyte _ _ [] 34 _ rfl _ Hf.out (by simp) (by simp)).mono ?_; rintro e w1 ⟨rfl, hb1, hw1⟩))
  have H1 := Lib.hid (show QI w s 0 w1 from ⟨hb1, HB.out.trans (hw1.mono (by simp))⟩)
  clear hb1 hw1
  go_loopw [4] (fun i wr => ∃ k : Nat, k ≤ s.size ∧ i = .int .i64 k ∧ QI w s k wr) (fun i _ => s.size - (intOf i).toNat)
  case atStart => exact ⟨0, by omega, rfl, H1.out⟩
  case round =>
    obtain ⟨k, hk, rfl, hq⟩ := hrel
    have Hq := Lib.hid hq; clear hq
    by_cases hlt : k < s.size
    · have hl := Lib.hid (flat_take_len s k hs)
      have hft := Lib.hid (flat_take hlt)
      have hc256 := s[k].toNat_lt
      have hsz := Lib.hid Hq.out.below.size
      by_cases hE : s[k].toNat = 34 ∨ s[k].toNat = 92
      · have hq : q1 s[k] = [92, s[k]] := by
          unfold q1
          rw [if_pos]
          rcases hE with h | h
          · exact .inl (UInt8.toNat_inj.1 h)
          · exact .inr (UInt8.toNat_inj.1 h)
        have Hqq := Lib.hid hq; clear hq
        by_cases h34 : s[k].toNat = 34
        · have d34 : ((s[k].toNat : Int) == 34) = true := by simp; omega
          clear h34 hE
          go_wp2_with (first
            | (go_at_call 39; first
                | (refine (wbyte _ _ _ s[k] _ rfl _ hb2 (Nat.le_trans hsz.out hw2.size) (by have := hl.out; simp only [List.length_append, List.length_cons, List.length_nil] at this ⊢; omega)).mono ?_; rintro e w3 ⟨rfl, hb3, hw3⟩)
                | (refine (wbyte _ _ _ 92 _ rfl _ Hq.out.buf hsz.out (by have := hl.out; omega)).mono ?_; rintro e w2 ⟨rfl, hb2, hw2⟩)))
          exact ⟨⟨k + 1, by omega, by go_num, Hq.out.next hft.out Hqq.out (by rw [← app2]; exact hb3) (hw2.trans hw3)⟩, by simp [intOf]; omega⟩
        · have d34 : ((s[k].toNat : Int) == 34) = false := by simp; omega
          have d92 : ((s[k].toNat : Int) == 92) = true := by simp; omega
          clear h34 hE
          go_wp2_with (first
            | (go_at_call 39; first
                | (refine (wbyte _ _ _ s[k] _ rfl _ hb2 (Nat.le_trans hsz.out hw2.size) (by have := hl.out; simp only [List.length_append, List.length_cons, List.length_nil] at this ⊢; omega)).mono ?_; rintro e w3 ⟨rfl, hb3, hw3⟩)
                | (refine (wbyte _ _ _ 92 _ rfl _ Hq.out.buf hsz.out (by have := hl.out; omega)).mono ?_; rintro e w2 ⟨rfl, hb2, hw2⟩)))
          exact ⟨⟨k + 1, by omega, by go_num, Hq.out.next hft.out Hqq.out (by rw [← app2]; exact hb3) (hw2.trans hw3)⟩, by simp [intOf]; omega⟩
      have d34 : ((s[k].toNat : Int) == 34) = false := by simp; omega
      have d92 : ((s[k].toNat : Int) == 92) = false := by simp; omega
      have hq : q1 s[k] = if 32 ≤ s[k].toNat ∧ s[k].toNat ≤ 126 then [s[k]] else [92, 120, hexD (s[k] >>> 4), hexD (s[k] &&& 15)] := by
        unfold q1
        rw [if_neg]
        · simp only [UInt8.le_iff_toNat_le]; rfl
        · rintro (h | h) <;> rw [h] at hE <;> exact hE (by decide)
      by_cases hP : 32 ≤ s[k].toNat ∧ s[k].toNat ≤ 126
      · rw [if_pos hP] at hq
        have Hqq := Lib.hid hq; clear hq
        have d32 : decide ((s[k].toNat : Int) ≥ 32) = true := by simp; omega
        have d126 : decide ((s[k].toNat : Int) ≤ 126) = true := by simp; omega
        clear hE hP
        go_wp2_with (first
          | (go_at_call 39; refine (wbyte _ _ _ s[k] _ rfl _ Hq.out.buf hsz.out (by have := hl.out; omega)).mono ?_; rintro e w2 ⟨rfl, hb2, hw2⟩))
        exact ⟨⟨k + 1, by omega, by go_num, Hq.out.next hft.out Hqq.out hb2 hw2⟩, by simp [intOf]; omega⟩
      rw [if_neg hP] at hq
      have Hqq := Lib.hid hq; clear hq
      have hb16 : s[k].toNat / 16 < 16 := by omega
      have hm16 : s[k].toNat % 16 < 16 := by omega
      have ha := and15 s[k].toNat hc256
      have h7 : ((34 :: flat (s.data.toList.take k)) ++ (⟨#[92, 120]⟩ : ByteArray).data.toList).length ≤ 4000003 := by have := hl.out; simp only [List.length_append] at this ⊢; simp at this ⊢; omega
      have H7 := Lib.hid h7; clear h7
      by_cases h32 : 32 ≤ s[k].toNat
      · have d32 : decide ((s[k].toNat : Int) ≥ 32) = true := by simp; omega
        have d126 : decide ((s[k].toNat : Int) ≤ 126) = false := by simp; omega
        clear hE hP h32
        go_wp2_with (first
          | (go_at_call 39; first
              | (refine (wbyte _ _ _ (hexD (s[k] &&& 15)) _ (hex_lo _ _) _ hb3 (Nat.le_trans (Nat.le_trans hsz.out hw2.size) hw3.size) (by have := H7.out; rw [List.length_append]; simp only [List.length_cons, List.length_nil]; omega)).mono ?_; rintro e w4 ⟨rfl, hb4, hw4⟩)
              | (refine (wbyte _ _ _ (hexD (s[k] >>> 4)) _ (hex_hi _ _) _ hb2 (Nat.le_trans hsz.out hw2.size) (by have := H7.out; omega)).mono ?_; rintro e w3 ⟨rfl, hb3, hw3⟩))
          | (go_at_call 40; refine (wstr _ _ _ _ _ Hq.out.buf hsz.out (by have := hl.out; omega) (by decide)).mono ?_; rintro e w2 ⟨rfl, hb2, hw2⟩))
        exact ⟨⟨k + 1, by omega, by go_num, Hq.out.next hft.out Hqq.out (by rw [← app4]; exact hb4) ((hw2.trans hw3).trans hw4)⟩, by simp [intOf]; omega⟩
      · have d32 : decide ((s[k].toNat : Int) ≥ 32) = false := by simp; omega
        clear hE hP h32
        go_wp2_with (first
          | (go_at_call 39; first
              | (refine (wbyte _ _ _ (hexD (s[k] &&& 15)) _ (hex_lo _ _) _ hb3 (Nat.le_trans (Nat.le_trans hsz.out hw2.size) hw3.size) (by have := H7.out; rw [List.length_append]; simp only [List.length_cons, List.length_nil]; omega)).mono ?_; rintro e w4 ⟨rfl, hb4, hw4⟩)
              | (refine (wbyte _ _ _ (hexD (s[k] >>> 4)) _ (hex_hi _ _) _ hb2 (Nat.le_trans hsz.out hw2.size) (by have := H7.out; omega)).mono ?_; rintro e w3 ⟨rfl, hb3, hw3⟩))
          | (go_at_call 40; refine (wstr _ _ _ _ _ Hq.out.buf hsz.out (by have := hl.out; omega) (by decide)).mono ?_; rintro e w2 ⟨rfl, hb2, hw2⟩))
        exact ⟨⟨k + 1, by omega, by go_num, Hq.out.next hft.out Hqq.out (by rw [← app4]; exact hb4) ((hw2.trans hw3).trans hw4)⟩, by simp [intOf]; omega⟩
    · obtain rfl : k = s.size := by omega
      have hall : s.data.toList.take s.size = s.data.toList := List.take_of_length_le (by show s.data.toList.length ≤ s.data.size; simp)
      have hbf := Hq.out.buf
      rw [hall] at hbf
      have Hbf := Lib.hid hbf; clear hbf
      have hl := Lib.hid (flat_take_len s s.size hs)
      rw [hall] at hl
      have hsz := Lib.hid Hq.out.below.size
      go_wp2_with (first
        | (go_at_call 39; refine (wbyte _ _ _ 34 _ rfl _ Hbf.out hsz.out (by have := hl.out; omega)).mono ?_; rintro e w2 ⟨rfl, hb2, hw2⟩)
        | (go_at_call 41; refine (Tryd.Buffer_String _ _ _ _ hb2).mono ?_; rintro e w3 ⟨rfl, n, rfl⟩))
      go_ret
      exact ⟨rfl, below_drewN (Hq.out.below.trans hw2) n⟩
end Go.Proofs.YtejiagmfinhjbaaDoor
