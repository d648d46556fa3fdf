/-
  Walks: the reference's Unquote; the laws of quotes and of unquotes.
-/
import Derived.Test.YtejiagmfinhjbaaDoorIk
namespace Go.Proofs.YtejiagmfinhjbaaDoor
open Go.RowKit Go.Ident

/-- What nibble returns. -/
def nibZ (c : UInt8) : Int := match nib c with | some a => a.toNat | none => -1
theorem nibZ_cases (c : UInt8) : (nib c = none ∧ nibZ c = -1) ∨ ∃ a : Nat, a < 16 ∧ nib c = some (UInt8.ofNat a) ∧ nibZ c = (a : Int) := by
  rcases nib_index c with ⟨h, _⟩ | ⟨a, ha, h, _⟩
  · exact .inl ⟨h, by unfold nibZ; rw [h]⟩
  · refine .inr ⟨a, ha, h, ?_⟩
    unfold nibZ
    rw [h]
    simp; omega
set_option maxRecDepth 100000 in
set_option maxHeartbeats 8000000 in
theorem nibble_any (c : UInt8) (w : World) : Calls Tryd.prog 43 #[.int .u8 c.toNat] w fun e w' => e = .returned (.int .i64 (nibZ c)) ∧ w' = w := by
  have hd := rdigit_any c
  have hc := c.toNat_lt
  by_cases h1 : 48 ≤ c.toNat ∧ c.toNat ≤ 57
  · have hi : isDi c = true := by simp [isDi, UInt8.le_iff_toNat_le, h1.1, h1.2]
    have hz : nibZ c = (c.toNat : Int) - 48 := by
      unfold nibZ nib
      rw [if_pos (by simpa [UInt8.le_iff_toNat_le] using h1)]
      show ((c - 48).toNat : Int) = _
      rw [UInt8.toNat_sub_of_le _ _ (by rw [UInt8.le_iff_toNat_le]; exact h1.1)]
      have : (48 : UInt8).toNat = 48 := rfl
      omega
    rw [hi] at hd
    rw [hz]
    go_enter Tryd.func43, Tryd.ntmps43
    go_wp2_with (first
      | (go_at_call 35; refine (hd _).mono ?_; rintro e w1 ⟨rfl, rfl⟩))
    go_ret
    exact ⟨rfl, rfl⟩
  · have hi : isDi c = false := by simp only [isDi, UInt8.le_iff_toNat_le]; simp; omega
    rw [hi] at hd
    by_cases h2 : 97 ≤ c.toNat ∧ c.toNat ≤ 102
    · have hz : nibZ c = (c.toNat : Int) - 97 + 10 := by
        unfold nibZ nib
        rw [if_neg (by simpa [UInt8.le_iff_toNat_le] using h1), if_pos (by simpa [UInt8.le_iff_toNat_le] using h2)]
        show ((c - 87).toNat : Int) = _
        rw [UInt8.toNat_sub_of_le _ _ (by rw [UInt8.le_iff_toNat_le]; show 87 ≤ c.toNat; omega)]
        have : (87 : UInt8).toNat = 87 := rfl
        omega
      have d1 : decide ((c.toNat : Int) ≥ 97) = true := by simp; omega
      have d2 : decide ((c.toNat : Int) ≤ 102) = true := by simp; omega
      rw [hz]
      go_enter Tryd.func43, Tryd.ntmps43
      go_wp2_with (first
        | (go_at_call 35; refine (hd _).mono ?_; rintro e w1 ⟨rfl, rfl⟩))
      go_ret
      exact ⟨rfl, rfl⟩
    · have hz : nibZ c = -1 := by
        unfold nibZ nib
        rw [if_neg (by simpa [UInt8.le_iff_toNat_le] using h1), if_neg (by simpa [UInt8.le_iff_toNat_le] using h2)]
      rw [hz]
      by_cases h3 : 97 ≤ c.toNat
      · have d1 : decide ((c.toNat : Int) ≥ 97) = true := by simp; omega
        have d2 : decide ((c.toNat : Int) ≤ 102) = false := by simp; omega
        go_enter Tryd.func43, Tryd.ntmps43
        go_wp2_with (first
          | (go_at_call 35; refine (hd _).mono ?_; rintro e w1 ⟨rfl, rfl⟩))
        go_ret
        exact ⟨rfl, rfl⟩
      · have d1 : decide ((c.toNat : Int) ≥ 97) = false := by simp; omega
        go_enter Tryd.func43, Tryd.ntmps43
        go_wp2_with (first
          | (go_at_call 35; refine (hd _).mono ?_; rintro e w1 ⟨rfl, rfl⟩))
        go_ret
        exact ⟨rfl, rfl⟩

section
variable {s : ByteArray} {k : Nat} {bs : List UInt8}
theorem rt_plain (h : k + 1 < s.size) (h1 : s[k].toNat ≠ 92) : decRFrom s.data.toList k bs = decRFrom s.data.toList (k + 1) (bs ++ [s[k]]) := decRFrom_plain (llt h) (ne_of_nat (by decide) h1)
theorem rt_hex {b : UInt8} (h : k + 4 < s.size) (h1 : s[k].toNat = 92) (h2 : s[k + 1].toNat = 120) (h3 : nib2 s[k + 2] s[k + 3] = some b) : decRFrom s.data.toList k bs = decRFrom s.data.toList (k + 4) (bs ++ [b]) :=
  decRFrom_hex (llt h) (eq_of_nat (by decide) h1) (eq_of_nat (by decide) h2) h3
theorem rt_byte (h : k + 1 < s.size) (h1 : s[k].toNat = 92) (h2 : ∀ h4 : k + 4 < s.size, s[k + 1].toNat = 120 → nib2 s[k + 2] s[k + 3] = none) : decRFrom s.data.toList k bs = decRFrom s.data.toList (k + 2) (bs ++ [s[k + 1]]) :=
  decRFrom_byte (llt h) (eq_of_nat (by decide) h1) (fun h4 h5 => h2 (by simpa using h4) (by
    have h6 : s[k + 1] = 120 := h5
    rw [h6]; rfl))
theorem rt_end (h : s.size ≤ k + 1) : decRFrom s.data.toList k bs = bs := decRFrom_end (lle h)
end
/-- What the reference's Unquote returns. -/
def unqB (s : ByteArray) : Ending := match unq s.data.toList with | some t => .returned (.tuple #[.string ⟨t.toArray⟩, .bool true]) | none => .returned (.tuple #[.string ⟨#[]⟩, .bool false])
theorem unqB_none {s : ByteArray} (h : unq s.data.toList = none) : unqB s = .returned (.tuple #[.string ⟨#[]⟩, .bool false]) := by unfold unqB; rw [h]
theorem unqB_some {s : ByteArray} {t : List UInt8} (h : unq s.data.toList = some t) : unqB s = .returned (.tuple #[.string ⟨t.toArray⟩, .bool true]) := by unfold unqB; rw [h]
/-- What the loop of the reference's Unquote has. -/
structure VI (w : World) (s : ByteArray) (k : Nat) (bs : List UInt8) (v : Value) (wr : World) : Prop where
  k1 : 1 ≤ k
  ks : k ≤ s.size ∨ k = 1
  ob : OB w v bs wr
  dec : decRFrom s.data.toList k bs = decR (s.data.toList.drop 1)
  len : bs.length ≤ k

abbrev OB.world {W0 w : World} {v : Value} {l : List UInt8} (_ : OB W0 v l w) : World := w
theorem ownsRowF_below {w w1 : World} {b : Nat} {e : TypeId} {size n : Nat} {v : Value} {xs : List Value} (h : w.ownsRowF b e size v n xs) (hB : Below w.heap.size w w1) : w1.ownsRowF b e size v n xs := by
  refine ⟨h.1, ?_⟩
  rcases h.2 with h2 | ⟨g, cap, cur, fz, h3, h4, h5, h6⟩
  · exact .inl h2
  · exact .inr ⟨g, cap, cur, fz, h3, h4, (hB.block g (Lib.lt_of_heap h5)).trans h5, h6⟩
set_option maxRecDepth 100000 in
set_option maxHeartbeats 8000000 in
theorem refUnquote_any (s : ByteArray) (hs : s.size ≤ 1000000) (w : World) : Calls Tryd.prog 20 #[.string s] w fun e w' => e = unqB s ∧ Below w.heap.size w w' := by
  have hv0 : VI w s 1 [] (.slice none 0 0) w := ⟨by omega, .inr rfl, OB.nil (Below.refl _ _), rfl, by simp⟩
  have Hv0 := Lib.hid hv0; clear hv0
  have Hsz := Lib.hid hs
  go_enter Tryd.func20, Tryd.ntmps20
  go_wp2
  go_loopw [4, 5] (fun v i wr => ∃ (k : Nat) (bs : List UInt8), k ≤ 1000001 ∧ i = .int .i64 k ∧ VI w s k bs v wr) (fun _ i _ => s.size + 1 - (intOf i).toNat)
  case atStart => exact ⟨1, [], by omega, rfl, Hv0.out⟩
  case round =>
    obtain ⟨k, bs, hkb, rfl, hq⟩ := hrel
    have Hq := Lib.hid hq; clear hq
    have hlen := Hq.out.len
    by_cases hlt : k + 1 < s.size
    · by_cases h92 : s[k].toNat = 92
      · have e92 : ((s[k].toNat : Int) != 92) = false := by simp; omega
        have hbyte := fun h => rt_byte (bs := bs) hlt h92 h
        by_cases h4 : k + 4 < s.size
        · have d4 : decide ((k : Int) + 4 < (s.size : Int)) = true := by simp; omega
          by_cases h120 : s[k + 1].toNat = 120
          · have e120 : ((s[k + 1].toNat : Int) == 120) = true := by simp; omega
            have t2 := nibble_any s[k + 2]
            have t3 := nibble_any s[k + 3]
            rcases nibZ_cases s[k + 2] with ⟨n2, i2⟩ | ⟨a2, l2, n2, i2⟩
            · rw [i2] at t2
              have Hst := Lib.hid (hbyte (fun _ _ => by rw [nib2, n2]))
              clear hbyte n2 i2 h92 h120
              go_wp2_with (first
                | (go_at_call 43; first
                    | (with_reducible refine (t2 _).mono ?_; rintro e w2 ⟨rfl, rfl⟩)
                    | (with_reducible refine (t3 _).mono ?_; rintro e w3 ⟨rfl, rfl⟩))
                | (at_builtin; refine append_bytes rfl (.tmp 71) (.tmp 75) rfl w _ _ bs [s[k + 1]] _ rfl rfl Hq.out.ob 1 rfl rfl (by simp only [List.length_cons, List.length_nil]; omega) ?_; intro v' w' hob; have Hob := Lib.hid hob; clear hob))
              exact ⟨⟨k + 2, _, by omega, by go_num, by omega, .inl (by omega), Hob.out, Hst.out.symm.trans Hq.out.dec, by simp; omega⟩, by simp [intOf]; omega⟩
            rw [i2] at t2
            rcases nibZ_cases s[k + 3] with ⟨n3, i3⟩ | ⟨a3, l3, n3, i3⟩
            · rw [i3] at t3
              have Hst := Lib.hid (hbyte (fun _ _ => by rw [nib2, n2, n3]))
              clear hbyte n2 i2 n3 i3 h92 h120
              go_wp2_with (first
                | (go_at_call 43; first
                    | (with_reducible refine (t2 _).mono ?_; rintro e w2 ⟨rfl, rfl⟩)
                    | (with_reducible refine (t3 _).mono ?_; rintro e w3 ⟨rfl, rfl⟩))
                | (at_builtin; refine append_bytes rfl (.tmp 71) (.tmp 75) rfl w _ _ bs [s[k + 1]] _ rfl rfl Hq.out.ob 1 rfl rfl (by simp only [List.length_cons, List.length_nil]; omega) ?_; intro v' w' hob; have Hob := Lib.hid hob; clear hob))
              exact ⟨⟨k + 2, _, by omega, by go_num, by omega, .inl (by omega), Hob.out, Hst.out.symm.trans Hq.out.dec, by simp; omega⟩, by simp [intOf]; omega⟩
            rw [i3] at t3
            have hn2 : nib2 s[k + 2] s[k + 3] = some (UInt8.ofNat (16 * a2 + a3)) := by
              rw [nib2, n2, n3]
              have : 16 * UInt8.ofNat a2 + UInt8.ofNat a3 = UInt8.ofNat (16 * a2 + a3) := by
                apply UInt8.toNat_inj.1
                simp [UInt8.toNat_add, UInt8.toNat_mul]
              simp only [this]
            have Hst := Lib.hid (rt_hex (bs := bs) h4 h92 h120 hn2)
            have Hx := Lib.hid (show (16 * (a2 : Int) + a3) = ((UInt8.ofNat (16 * a2 + a3)).toNat : Int) by simp; omega)
            clear hbyte n2 i2 n3 i3 h92 h120 hn2
            go_wp2_with (first
              | ((with_reducible refine Lex.at_region ?_); with_reducible refine Lex.wp_region_lex (by kernel_rfl) (by decide +kernel) ?_)
              | ((with_reducible refine Lex.at_fin ?_); with_reducible refine Lex.fin_on (by kernel_rfl) ?_)
              | (go_at_call 43; first
                  | (with_reducible refine (t2 _).mono ?_; rintro e w2 ⟨rfl, rfl⟩)
                  | (with_reducible refine (t3 _).mono ?_; rintro e w3 ⟨rfl, rfl⟩))
              | (at_builtin; refine append_bytes rfl (.tmp 51) (.tmp 65) rfl w (OB.world Hq.out.ob.drew) _ bs [UInt8.ofNat (16 * a2 + a3)] _ (by simp only [Lib.byteCells, List.map_cons, List.map_nil, ← Hx.out]) rfl Hq.out.ob.drew 1 rfl rfl (by simp only [List.length_cons, List.length_nil]; omega) ?_; intro v' w' hob; have Hob := Lib.hid hob; clear hob))
            exact ⟨⟨k + 4, _, by omega, by go_num, by omega, .inl (by omega), Hob.out, Hst.out.symm.trans Hq.out.dec, by simp; omega⟩, by simp [intOf]; omega⟩
          · have e120 : ((s[k + 1].toNat : Int) == 120) = false := by simp; omega
            have Hst := Lib.hid (hbyte (fun _ h => absurd h h120))
            clear hbyte h92 h120
            go_wp2_with (first
              | (at_builtin; refine append_bytes rfl (.tmp 71) (.tmp 75) rfl w _ _ bs [s[k + 1]] _ rfl rfl Hq.out.ob 1 rfl rfl (by simp only [List.length_cons, List.length_nil]; omega) ?_; intro v' w' hob; have Hob := Lib.hid hob; clear hob))
            exact ⟨⟨k + 2, _, by omega, by go_num, by omega, .inl (by omega), Hob.out, Hst.out.symm.trans Hq.out.dec, by simp; omega⟩, by simp [intOf]; omega⟩
        · have d4 : decide ((k : Int) + 4 < (s.size : Int)) = false := by simp; omega
          have Hst := Lib.hid (hbyte (fun h => absurd h h4))
          clear hbyte h92
          go_wp2_with (first
            | (at_builtin; refine append_bytes rfl (.tmp 71) (.tmp 75) rfl w _ _ bs [s[k + 1]] _ rfl rfl Hq.out.ob 1 rfl rfl (by simp only [List.length_cons, List.length_nil]; omega) ?_; intro v' w' hob; have Hob := Lib.hid hob; clear hob))
          exact ⟨⟨k + 2, _, by omega, by go_num, by omega, .inl (by omega), Hob.out, Hst.out.symm.trans Hq.out.dec, by simp; omega⟩, by simp [intOf]; omega⟩
      · have e92 : ((s[k].toNat : Int) != 92) = true := by simp; omega
        have Hst := Lib.hid (rt_plain (bs := bs) hlt h92)
        clear h92
        go_wp2_with (first
          | (at_builtin; refine append_bytes rfl (.tmp 17) (.tmp 21) rfl w _ _ bs [s[k]] _ rfl rfl Hq.out.ob 1 rfl rfl (by simp only [List.length_cons, List.length_nil]; omega) ?_; intro v' w' hob; have Hob := Lib.hid hob; clear hob))
        exact ⟨⟨k + 1, _, by omega, by go_num, by omega, .inl (by omega), Hob.out, Hst.out.symm.trans Hq.out.dec, by simp; omega⟩, by simp [intOf]; omega⟩
    · have hd : decR (s.data.toList.drop 1) = bs := Hq.out.dec.symm.trans (rt_end (by omega))
      have HQ := Lib.hid (refQuote_any ⟨bs.toArray⟩ (by show bs.toArray.size ≤ _; simp; have := Hq.out.ks; omega))
      have hcv := Hq.out.ob.conv
      have hun : unq s.data.toList = if quo bs = s.data.toList then some bs else none := by unfold unq; rw [hd]
      by_cases hqe : quo bs = s.data.toList
      · rw [if_pos hqe] at hun
        have hr := unqB_some hun
        have hne : (quo bs == s.toList) = true := by rw [beq_iff_eq, hqe]; exact list_eq s
        clear hun hqe hd
        go_wp2_with (first
          | (go_at_call 19; refine (HQ.out _).mono ?_; rintro e w4 ⟨rfl, hb4⟩; have Hb4 := Lib.hid hb4; clear hb4; have hcv4 := OB.conv (W0 := w) (l := bs) ⟨(ownsRowF_below Hq.out.ob.1 Hb4.out), Hq.out.ob.below.trans (Hb4.out.mono Hq.out.ob.below.size), Nat.le_trans Hq.out.ob.below.size Hb4.out.size⟩))
        go_ret2
        exact ⟨by first | exact rfl | exact hr.symm, Hq.out.ob.below.trans (Hb4.out.mono Hq.out.ob.below.size)⟩
      · rw [if_neg hqe] at hun
        have hr := unqB_none hun
        have hne : (quo bs == s.toList) = false := by rw [beq_eq_false_iff_ne]; exact fun h => hqe (h.trans (list_eq s).symm)
        clear hun hqe hd
        go_wp2_with (first
          | (go_at_call 19; refine (HQ.out _).mono ?_; rintro e w4 ⟨rfl, hb4⟩; have Hb4 := Lib.hid hb4; clear hb4))
        go_ret2
        exact ⟨by first | exact rfl | exact hr.symm, Hq.out.ob.below.trans (Hb4.out.mono Hq.out.ob.below.size)⟩
end Go.Proofs.YtejiagmfinhjbaaDoor
