/-
  Walks: Unquote.
-/
import Derived.Test.YtejiagmfinhjbaaDoorId
namespace Go.Proofs.YtejiagmfinhjbaaDoor
open Go.RowKit Go.Ident

def hexS : ByteArray := ⟨#[48, 49, 50, 51, 52, 53, 54, 55, 56, 57, 97, 98, 99, 100, 101, 102]⟩
theorem nib_index (c : UInt8) : (nib c = none ∧ Lib.indexByte hexS.data.toList c = -1) ∨ ∃ a : Nat, a < 16 ∧ nib c = some (UInt8.ofNat a) ∧ Lib.indexByte hexS.data.toList c = (a : Int) := by
  have key : ∀ n : Fin 256, (nib (UInt8.ofNat n.val) = none ∧ Lib.indexByte hexS.data.toList (UInt8.ofNat n.val) = -1) ∨ ((Lib.indexByte hexS.data.toList (UInt8.ofNat n.val)).toNat < 16 ∧ nib (UInt8.ofNat n.val) = some (UInt8.ofNat (Lib.indexByte hexS.data.toList (UInt8.ofNat n.val)).toNat) ∧ Lib.indexByte hexS.data.toList (UInt8.ofNat n.val) = ((Lib.indexByte hexS.data.toList (UInt8.ofNat n.val)).toNat : Int)) := by decide +kernel
  have := key ⟨c.toNat, c.toNat_lt⟩
  simp only [UInt8.ofNat_toNat] at this
  rcases this with h | h
  · exact .inl h
  · exact .inr ⟨_, h⟩
/-- The index of a byte among the digits. -/
def nibI (c : UInt8) : Int := Lib.indexByte hexS.data.toList c
theorem index_any (c : UInt8) (w : World) : Calls Tryd.prog 42 #[.string ⟨#[48, 49, 50, 51, 52, 53, 54, 55, 56, 57, 97, 98, 99, 100, 101, 102]⟩, .int .u8 c.toNat] w fun e w' => e = .returned (.int .i64 (nibI c)) ∧ w' = w := by
  have := Tryd.strings_IndexByte hexS c.toNat w
  simp only [Int.toNat_natCast, Nat.toUInt8_eq, UInt8.ofNat_toNat] at this
  exact this

theorem list_shape {l : List UInt8} {n : Nat} (hl : l.length = n) (h2 : 2 ≤ n) (h0 : l[0]'(by omega) = 34) (he : l[n - 1]'(by omega) = 34) : l = 34 :: ((l.take (n - 1)).drop 1 ++ [34]) := by
  have h1 : l = l.take (n - 1) ++ [34] := by
    have h3 := List.take_append_drop (n - 1) l
    rw [List.drop_eq_getElem_cons (by omega), he, List.drop_eq_nil_of_le (by omega)] at h3
    exact h3.symm
  have h4 : l.take (n - 1) = 34 :: (l.take (n - 1)).drop 1 := by
    have h5 := List.drop_eq_getElem_cons (show 0 < (l.take (n - 1)).length by simp; omega)
    rw [List.drop_zero, List.getElem_take, h0] at h5
    exact h5
  conv => lhs; rw [h1, h4]
  rfl
/-- The body of a quoted string. -/
theorem body_eq {s : ByteArray} (h2 : 2 ≤ s.size) (h0 : s[0].toNat = 34) (he : s[s.size - 1].toNat = 34) :
    s.data.toList = 34 :: ((s.extract 1 (s.size - 1)).data.toList ++ [34]) ∧ (s.extract 1 (s.size - 1)).size = s.size - 2 := by
  have hl : s.data.toList.length = s.size := by show _ = s.data.size; simp
  have h0' : s.data.toList[0]'(by omega) = 34 := UInt8.toNat_inj.1 h0
  have he' : s.data.toList[s.size - 1]'(by omega) = 34 := UInt8.toNat_inj.1 he
  have hx : (s.extract 1 (s.size - 1)).data.toList = (s.data.toList.take (s.size - 1)).drop 1 := by
    rw [ByteArray.data_extract, Array.toList_extract]
    simp [List.extract, List.drop_take]
  refine ⟨?_, by rw [ByteArray.size_extract]; omega⟩
  rw [hx]
  exact list_shape hl h2 h0' he'
/-- A string in quotes. -/
def Quoted (s : ByteArray) : Prop := ∃ (h2 : 2 ≤ s.size), s[0].toNat = 34 ∧ s[s.size - 1].toNat = 34
theorem shape {s : ByteArray} {b : List UInt8} (h : s.data.toList = 34 :: (b ++ [34])) : Quoted s := by
  have hl : s.data.toList.length = s.size := by show _ = s.data.size; simp
  have h2 : 2 ≤ s.size := by rw [← hl, h]; simp
  refine ⟨h2, ?_, ?_⟩
  · have : s[0] = s.data.toList[0]'(by omega) := rfl
    rw [this]
    simp only [h]; rfl
  · have : s[s.size - 1] = s.data.toList[s.size - 1]'(by omega) := rfl
    rw [this]
    have hs : s.size = b.length + 2 := by rw [← hl, h]; simp
    have h3 : s.data.toList[s.size - 1]? = some 34 := by
      rw [h, hs, show b.length + 2 - 1 = b.length + 1 by omega, List.getElem?_cons_succ]
      simp
    rw [List.getElem?_eq_getElem (by omega)] at h3
    rw [Option.some.inj h3]; rfl

section
variable {b : ByteArray} {k : Nat} {bs : List UInt8}
theorem llt (h : k < b.size) : k < b.data.toList.length := by show k < b.data.toList.length; simpa using h
theorem lle (h : b.size ≤ k) : b.data.toList.length ≤ k := by show b.data.toList.length ≤ k; simpa using h
theorem ne_of_nat {a : UInt8} {n : Nat} (hn : n < 256) (h : a.toNat ≠ n) : a ≠ UInt8.ofNat n := by rintro rfl; exact h (by simp; omega)
theorem eq_of_nat {a : UInt8} {n : Nat} (hn : n < 256) (h : a.toNat = n) : a = UInt8.ofNat n := UInt8.toNat_inj.1 (by rw [h]; simp; omega)
theorem st_plain (h : k < b.size) (h1 : b[k].toNat ≠ 92) : decFrom b.data.toList k bs = decFrom b.data.toList (k + 1) (bs ++ [b[k]]) := decFrom_plain (llt h) (ne_of_nat (by decide) h1)
theorem st_end1 (h : k < b.size) (h1 : b[k].toNat = 92) (h2 : b.size ≤ k + 1) : decFrom b.data.toList k bs = none := decFrom_end1 (llt h) (eq_of_nat (by decide) h1) (lle h2)
theorem st_byte (h : k < b.size) (h1 : b[k].toNat = 92) (h2 : k + 1 < b.size) (h3 : b[k + 1].toNat ≠ 120) : decFrom b.data.toList k bs = decFrom b.data.toList (k + 2) (bs ++ [b[k + 1]]) :=
  decFrom_byte (llt h) (eq_of_nat (by decide) h1) (llt h2) (ne_of_nat (by decide) h3)
theorem st_cut (h : k < b.size) (h1 : b[k].toNat = 92) (h2 : k + 1 < b.size) (h3 : b[k + 1].toNat = 120) (h4 : b.size ≤ k + 3) : decFrom b.data.toList k bs = none :=
  decFrom_cut (llt h) (eq_of_nat (by decide) h1) (llt h2) (eq_of_nat (by decide) h3) (lle h4)
theorem st_hex (h : k < b.size) (h1 : b[k].toNat = 92) (h2 : k + 1 < b.size) (h3 : b[k + 1].toNat = 120) (h4 : k + 3 < b.size) :
    decFrom b.data.toList k bs = match nib2 b[k + 2] b[k + 3] with | none => none | some c => decFrom b.data.toList (k + 4) (bs ++ [c]) :=
  decFrom_hex (llt h) (eq_of_nat (by decide) h1) (llt h2) (eq_of_nat (by decide) h3) (llt h4)
end
theorem or16 : ∀ a : Nat, a < 16 → ∀ c : Nat, c < 16 → bits BinOp.or IntKind.i64 ((a : Int) * 16) (c : Int) = ((16 * a + c : Nat) : Int) := by decide +kernel
theorem list_eq (s : ByteArray) : s.data.toList = s.toList := (ByteArray.toList_eq s).symm
/-- What Unquote returns. -/
def unqR (s : ByteArray) : Ending := match unq s.data.toList with | some t => .returned (.tuple #[.string ⟨t.toArray⟩, .int .i64 0]) | none => .returned (.tuple #[.string ⟨#[]⟩, .int .i64 5])
theorem unqR_none {s : ByteArray} (h : unq s.data.toList = none) : unqR s = .returned (.tuple #[.string ⟨#[]⟩, .int .i64 5]) := by unfold unqR; rw [h]
theorem unqR_some {s : ByteArray} {t : List UInt8} (h : unq s.data.toList = some t) : unqR s = .returned (.tuple #[.string ⟨t.toArray⟩, .int .i64 0]) := by unfold unqR; rw [h]

theorem ownsRow_below {B : Nat} {w w1 : World} {b : Nat} {e : TypeId} {size n : Nat} {v : Value} {xs : List Value} (h : w.ownsRow b e size v n xs) (hB : Below B w w1) (hw : w.heap.size ≤ B) : w1.ownsRow b e size v n xs := by
  refine ⟨h.1, ?_⟩
  rcases h.2 with h2 | ⟨g, cap, cur, rfl, h4, h5, h6⟩
  · exact .inl h2
  · refine .inr ⟨g, cap, cur, rfl, h4, ?_, h6⟩
    have hlt := Lib.lt_of_heap h5
    rw [hB.block g (by omega)]; exact h5
theorem buf_below {B b : Nat} {l : List UInt8} {w w' : World} (h : Buf B b l w) (hb : Below w.heap.size w w') : Buf B b l w' := by
  obtain ⟨h1, v, lr, h2, h3, h4⟩ := h
  exact ⟨h1, v, lr, by rw [hb.block b (Lib.lt_of_heap h2)]; exact h2, ownsRow_below h3 hb (Nat.le_refl _), h4⟩
/-- What the loop of Unquote has. -/
structure UI (w : World) (b : ByteArray) (k : Nat) (bs : List UInt8) (wr : World) : Prop where
  buf : Buf w.heap.size w.heap.size bs wr
  below : Below w.heap.size w wr
  dec : decFrom b.data.toList k bs = dec b.data.toList
  len : bs.length ≤ k
theorem UI.bufd {w wr : World} {b : ByteArray} {k : Nat} {bs : List UInt8} (h : UI w b k bs wr) : Buf w.heap.size w.heap.size bs wr.drew := h.buf
theorem UI.size {w wr : World} {b : ByteArray} {k : Nat} {bs : List UInt8} (h : UI w b k bs wr) : w.heap.size ≤ wr.heap.size := h.below.size

set_option maxRecDepth 100000 in
set_option maxHeartbeats 8000000 in
theorem unquote_any (s : ByteArray) (hs : s.size ≤ 1000000) (w : World) :
    Calls Tryd.prog 18 #[.string s] w fun e w' => e = unqR s ∧ Below w.heap.size w w' := by
  by_cases hsh : Quoted s
  · obtain ⟨h2, h0, he⟩ := hsh
    have hf := Lib.fresh_isBuffer 56 5 w
    have hB := (Below.refl w.heap.size w).alloc (Nat.le_refl _) (.cells #[.slice none 0 0, .int .i64 0, .int .i8 0] 56)
    have Hf := Lib.hid hf; clear hf
    have HB := Lib.hid hB; clear hB
    have d1 : decide ((s.size : Int) < 2) = false := by simp; omega
    have d0 : ((s[0].toNat : Int) != 34) = false := by simp; omega
    have de : ((s[s.size - 1].toNat : Int) != 34) = false := by simp; omega
    obtain ⟨hbe, hbs⟩ := body_eq h2 h0 he
    have hsl : ∀ w, (Instr.slice 9 (.string s) (some (.int .i64 1)) (some (.int .i64 ((s.size : Int) - 1))) none).run Tryd.prog w = .ok (.string (s.extract 1 (s.size - 1))) w := by
      intro w
      have := run_slice_string (P := Tryd.prog) w 9 s .i64 .i64 1 ((s.size : Int) - 1) Tryd.underlying9 (by omega) (by omega) (by omega)
      rw [this, show ((s.size : Int) - 1).toNat = s.size - 1 by omega]; rfl
    generalize s.extract 1 (s.size - 1) = b at *
    have Hbe := Lib.hid hbe; clear hbe
    have Hbs := Lib.hid hbs; clear hbs
    have Hsz := Lib.hid hs
    have hun : dec b.data.toList = none → unqR s = .returned (.tuple #[.string ⟨#[]⟩, .int .i64 5]) := fun h => unqR_none (by rw [Hbe.out]; exact unq_none h)
    go_enter Tryd.func18, Tryd.ntmps18
    go_wp2
    clear hsl d1 d0 de h0 he
    have H1 := Lib.hid (show UI w b 0 [] (w.alloc (.cells #[.slice none 0 0, .int .i64 0, .int .i8 0] 56)) from ⟨Hf.out, HB.out, decFrom_zero _, by simp⟩)
    generalize w.alloc (.cells #[.slice none 0 0, .int .i64 0, .int .i8 0] 56) = w1 at *
    go_loopw [6] (fun i wr => ∃ (k : Nat) (bs : List UInt8), k ≤ b.size ∧ i = .int .i64 k ∧ UI w b k bs wr) (fun i _ => b.size - (intOf i).toNat)
    case atStart => exact ⟨0, [], by omega, rfl, H1.out⟩
    case round =>
      obtain ⟨k, bs, hk, rfl, hq⟩ := hrel
      have Hq := Lib.hid hq; clear hq
      have hbz : b.size ≤ 1000000 := by have := Hbs.out; have := Hsz.out; omega
      by_cases hlt : k < b.size
      · by_cases h92 : b[k].toNat = 92
        · have e92 : ((b[k].toNat : Int) != 92) = false := by simp; omega
          by_cases h2 : k + 1 < b.size
          · by_cases h120 : b[k + 1].toNat = 120
            · have e120 : ((b[k + 1].toNat : Int) == 120) = true := by simp; omega
              by_cases h3 : k + 3 < b.size
              · have hst := st_hex (bs := bs) hlt h92 h2 h120 h3
                have t2 := index_any b[k + 2]
                have t3 := index_any b[k + 3]
                unfold nibI at t2 t3
                rcases nib_index b[k + 2] with ⟨n2, i2⟩ | ⟨a2, l2, n2, i2⟩
                · rw [i2] at t2
                  have hr := hun (by rw [← Hq.out.dec, hst, nib2, n2])
                  clear hst n2 i2 h92 h120
                  go_wp2_with (first
                    | ((with_reducible refine Lex.at_region ?_); with_reducible refine Lex.wp_region_lex (by kernel_rfl) (by decide +kernel) ?_)
                    | ((with_reducible refine Lex.at_fin ?_); with_reducible refine Lex.fin_on (by kernel_rfl) ?_)
                    | (go_at_call 42; first
                        | (with_reducible refine (t2 _).mono ?_; rintro e w2 ⟨rfl, rfl⟩)
                        | (with_reducible refine (t3 _).mono ?_; rintro e w3 ⟨rfl, rfl⟩)))
                  go_ret2
                  exact ⟨by first | exact rfl | exact hr.symm, by first | exact Hq.out.below | exact Hq.out.below.drew⟩
                rw [i2] at t2
                rcases nib_index b[k + 3] with ⟨n3, i3⟩ | ⟨a3, l3, n3, i3⟩
                · rw [i3] at t3
                  have hr := hun (by rw [← Hq.out.dec, hst, nib2, n2, n3])
                  clear hst n2 i2 n3 i3 h92 h120
                  go_wp2_with (first
                    | ((with_reducible refine Lex.at_region ?_); with_reducible refine Lex.wp_region_lex (by kernel_rfl) (by decide +kernel) ?_)
                    | ((with_reducible refine Lex.at_fin ?_); with_reducible refine Lex.fin_on (by kernel_rfl) ?_)
                    | (go_at_call 42; first
                        | (with_reducible refine (t2 _).mono ?_; rintro e w2 ⟨rfl, rfl⟩)
                        | (with_reducible refine (t3 _).mono ?_; rintro e w3 ⟨rfl, rfl⟩)))
                  go_ret2
                  exact ⟨by first | exact rfl | exact hr.symm, by first | exact Hq.out.below | exact Hq.out.below.drew⟩
                rw [i3] at t3
                have hor := or16 a2 l2 a3 l3
                have hst2 : decFrom b.data.toList k bs = decFrom b.data.toList (k + 4) (bs ++ [UInt8.ofNat (16 * a2 + a3)]) := by
                  rw [hst, nib2, n2, n3]
                  have : 16 * UInt8.ofNat a2 + UInt8.ofNat a3 = UInt8.ofNat (16 * a2 + a3) := by
                    apply UInt8.toNat_inj.1
                    simp [UInt8.toNat_add, UInt8.toNat_mul]
                  simp only [this]
                have Hst := Lib.hid hst2
                have hx : (16 * (a2 : Int) + a3) = ((UInt8.ofNat (16 * a2 + a3)).toNat : Int) := by simp; omega
                have Hx := Lib.hid hx
                clear hst n2 i2 n3 i3 h92 h120 hst2 hx
                go_wp2_with (first
                  | ((with_reducible refine Lex.at_region ?_); with_reducible refine Lex.wp_region_lex (by kernel_rfl) (by decide +kernel) ?_)
                  | ((with_reducible refine Lex.at_fin ?_); with_reducible refine Lex.fin_on (by kernel_rfl) ?_)
                  | (go_at_call 42; first
                      | (with_reducible refine (t2 _).mono ?_; rintro e w2 ⟨rfl, rfl⟩)
                      | (with_reducible refine (t3 _).mono ?_; rintro e w3 ⟨rfl, rfl⟩))
                  | (go_at_call 39; refine (wbyte _ _ _ (UInt8.ofNat (16 * a2 + a3)) _ Hx.out wr.drew Hq.out.bufd Hq.out.size (by have := Hq.out.len; omega)).mono ?_; rintro e w2 ⟨rfl, hb2, hw2⟩))
                exact ⟨⟨k + 4, _, by omega, by go_num, hb2, Hq.out.below.drew.trans hw2, Hst.out.symm.trans Hq.out.dec, by have := Hq.out.len; simp; omega⟩, by simp [intOf]; omega⟩
              · have hn := Hq.out.dec.symm.trans (st_cut hlt h92 h2 h120 (by omega))
                have hr := hun hn
                clear h92 h120
                go_wp2
                go_ret2
                exact ⟨by first | exact rfl | exact hr.symm, by first | exact Hq.out.below | exact Hq.out.below.drew⟩
            · have e120 : ((b[k + 1].toNat : Int) == 120) = false := by simp; omega
              have hst := Lib.hid (st_byte (bs := bs) hlt h92 h2 h120)
              clear h92 h120
              go_wp2_with (first
                | (go_at_call 39; refine (wbyte _ _ _ b[k + 1] _ rfl _ Hq.out.buf Hq.out.size (by have := Hq.out.len; omega)).mono ?_; rintro e w2 ⟨rfl, hb2, hw2⟩))
              exact ⟨⟨k + 2, bs ++ [b[k + 1]], by omega, by go_num, hb2, Hq.out.below.trans hw2, hst.out.symm.trans Hq.out.dec, by have := Hq.out.len; simp; omega⟩, by simp [intOf]; omega⟩
          · have hn := Hq.out.dec.symm.trans (st_end1 hlt h92 (by omega))
            have hr := hun hn
            clear h92
            go_wp2
            go_ret2
            exact ⟨by first | exact rfl | exact hr.symm, by first | exact Hq.out.below | exact Hq.out.below.drew⟩
        · have e92 : ((b[k].toNat : Int) != 92) = true := by simp; omega
          have hst := Lib.hid (st_plain (bs := bs) hlt h92)
          clear h92
          go_wp2_with (first
            | (go_at_call 39; refine (wbyte _ _ _ b[k] _ rfl _ Hq.out.buf Hq.out.size (by have := Hq.out.len; omega)).mono ?_; rintro e w2 ⟨rfl, hb2, hw2⟩))
          exact ⟨⟨k + 1, bs ++ [b[k]], by omega, by go_num, hb2, Hq.out.below.trans hw2, hst.out.symm.trans Hq.out.dec, by have := Hq.out.len; simp; omega⟩, by simp [intOf]; omega⟩
      · obtain rfl : k = b.size := by omega
        have hd : dec b.data.toList = some bs := Hq.out.dec.symm.trans (decFrom_end _ _ _ (lle (Nat.le_refl _)))
        have hlen := Hq.out.len
        have HQ := Lib.hid (quote_any ⟨bs.toArray⟩ (by show bs.toArray.size ≤ _; simp; omega))
        have hbelow := Hq.out.below
        have hsz := Hq.out.size
        by_cases hqe : quo bs = s.data.toList
        · have hr := unqR_some (s := s) (t := bs) (by rw [← hqe]; exact unq_quo bs)
          have hne : (quo bs == s.toList) = true := by rw [beq_iff_eq, hqe]; exact list_eq s
          clear hqe hd
          go_wp2_with (first
            | (go_at_call 41; first
                | (refine (Tryd.Buffer_String _ _ bs _ HB5.out).mono ?_; rintro e w5 ⟨rfl, n5, rfl⟩)
                | (refine (Tryd.Buffer_String _ _ bs _ Hq.out.buf).mono ?_; rintro e w3 ⟨rfl, n3, rfl⟩))
            | (go_at_call 17; refine (HQ.out _).mono ?_; rintro e w4 ⟨rfl, hb4⟩; have HB5 := Lib.hid (buf_below (show Buf _ _ bs (wr.drewN n3) from Hq.out.buf) hb4)))
          go_ret2
          exact ⟨by first | exact rfl | exact hr.symm, below_drewN ((below_drewN hbelow n3).trans (hb4.mono hsz)) n5⟩
        · have hr : unqR s = .returned (.tuple #[.string ⟨#[]⟩, .int .i64 5]) := unqR_none (by rw [Hbe.out]; exact unq_other hd (by rw [← Hbe.out]; exact hqe))
          have hne : (quo bs == s.toList) = false := by rw [beq_eq_false_iff_ne]; exact fun h => hqe (h.trans (list_eq s).symm)
          clear hqe hd
          go_wp2_with (first
            | (go_at_call 41; refine (Tryd.Buffer_String _ _ bs _ Hq.out.buf).mono ?_; rintro e w3 ⟨rfl, n3, rfl⟩)
            | (go_at_call 17; refine (HQ.out _).mono ?_; rintro e w4 ⟨rfl, hb4⟩))
          go_ret2
          exact ⟨by first | exact rfl | exact hr.symm, (below_drewN hbelow n3).trans (hb4.mono hsz)⟩
  · have hr : unqR s = .returned (.tuple #[.string ⟨#[]⟩, .int .i64 5]) := unqR_none (unq_shape (by rintro ⟨b, hb⟩; exact hsh (shape hb)))
    by_cases h2 : 2 ≤ s.size
    · have d1 : decide ((s.size : Int) < 2) = false := by simp; omega
      by_cases h0 : s[0].toNat = 34
      · have d0 : ((s[0].toNat : Int) != 34) = false := by simp; omega
        have he : s[s.size - 1].toNat ≠ 34 := fun he => hsh ⟨h2, h0, he⟩
        have de : ((s[s.size - 1].toNat : Int) != 34) = true := by simp; omega
        clear h0 he
        go_enter Tryd.func18, Tryd.ntmps18
        go_wp2
        go_ret2
        exact ⟨by first | exact rfl | exact hr.symm, Below.refl _ _⟩
      · have d0 : ((s[0].toNat : Int) != 34) = true := by simp; omega
        clear h0
        go_enter Tryd.func18, Tryd.ntmps18
        go_wp2
        go_ret2
        exact ⟨by first | exact rfl | exact hr.symm, Below.refl _ _⟩
    · have d1 : decide ((s.size : Int) < 2) = true := by simp; omega
      go_enter Tryd.func18, Tryd.ntmps18
      go_wp2
      go_ret2
      exact ⟨by first | exact rfl | exact hr.symm, Below.refl _ _⟩
end Go.Proofs.YtejiagmfinhjbaaDoor
