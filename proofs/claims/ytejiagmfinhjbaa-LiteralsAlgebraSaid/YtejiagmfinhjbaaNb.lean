/-
  Walks: names.
-/
import Derived.Test.YtejiagmfinhjbaaNa
import Derived.Lib.Hide
namespace Go.Proofs.Ytejiagmfinhjbaa
open Go.RowKit Go.Ident

section
variable {f g : UInt8 → Bool} {s : ByteArray}
theorem nm_short (h : s.size < 1 ∨ 16 < s.size) : isNm f g s.data.toList = false := by
  have hl : s.data.toList.length = s.size := by show _ = s.data.size; simp
  generalize s.data.toList = l at *
  match l, hl with
  | [], _ => rfl
  | c :: r, hl =>
    have : ¬ r.length ≤ 15 := by simp at hl; omega
    simp [isNm, this]
theorem nm_head (h1 : 0 < s.size) (h2 : s.size ≤ 16) : isNm f g s.data.toList = (f s[0] && (s.data.toList.drop 1).all g) := by
  obtain ⟨⟨l⟩⟩ := s
  match l, h1, h2 with
  | c :: r, h1, h2 =>
    have : r.length ≤ 15 := by simp [ByteArray.size] at h2; omega
    simp [isNm, this]
    rfl
theorem all_step {k : Nat} (h : k < s.size) : (s.data.toList.drop k).all g = (g s[k] && (s.data.toList.drop (k + 1)).all g) := by
  rw [List.drop_eq_getElem_cons (show k < s.data.toList.length by show _ < s.data.toList.length; simpa using h)]
  rfl
theorem all_end {k : Nat} (h : s.size ≤ k) : (s.data.toList.drop k).all g = true := by
  rw [List.drop_eq_nil_of_le (by show s.data.toList.length ≤ k; simpa using h)]; rfl
end

set_option maxRecDepth 100000 in
set_option maxHeartbeats 8000000 in
theorem isNameA_any (s : ByteArray) (w : World) : Calls Try.prog 62 #[.string s, .func (.func 63) #[] #[], .func (.func 64) #[] #[]] w fun e w' => e = .returned (.bool (isAtm s.data.toList)) ∧ w' = w := by
  unfold isAtm
  by_cases h1 : s.size < 1
  · rw [nm_short (.inl h1)]
    go_enter Try.func62, Try.ntmps62
    go_wp2
    go_ret
    exact ⟨rfl, rfl⟩
  by_cases h2 : 16 < s.size
  · rw [nm_short (.inr h2)]
    have d1 : decide ((s.size : Int) < 1) = false := by simp; omega
    have d2 : decide ((s.size : Int) > 16) = true := by simp; omega
    go_enter Try.func62, Try.ntmps62
    go_wp2
    go_ret
    exact ⟨rfl, rfl⟩
  rw [nm_head (by omega) (by omega)]
  obtain ⟨R, hR⟩ : ∃ R, R = (s.data.toList.drop 1).all aOther := ⟨_, rfl⟩
  rw [← hR]
  have HR := Lib.hid hR; clear hR
  have d1 : decide ((s.size : Int) < 1) = false := by simp; omega
  have d2 : decide ((s.size : Int) > 16) = false := by simp; omega
  have t0 := lower_any (s[0]'(by omega))
  cases hc : isLo (s[0]'(by omega)) with
  | false =>
    rw [hc] at t0
    go_enter Try.func62, Try.ntmps62
    go_wp2_with (first
      | (go_at_call 63; refine (t0 _).mono ?_; rintro e w1 ⟨rfl, rfl⟩))
    go_ret
    exact ⟨rfl, rfl⟩
  | true =>
    rw [hc] at t0
    go_enter Try.func62, Try.ntmps62
    go_wp2_with (first
      | (go_at_call 63; refine (t0 _).mono ?_; rintro e w1 ⟨rfl, rfl⟩))
    clear t0
    go_loop [7] (fun i => ∃ k : Nat, 1 ≤ k ∧ k ≤ s.size ∧ i = .int .i64 k ∧ (s.data.toList.drop k).all aOther = R) (fun i => s.size - (intOf i).toNat)
    case atStart => exact ⟨1, by omega, by omega, rfl, HR.out.symm⟩
    case round =>
      obtain ⟨k, hk1, hk2, rfl, he⟩ := hrel
      by_cases hlt : k < s.size
      · have he2 := all_step (g := aOther) hlt

        have t1 := aOther_any s[k]
        cases hb : aOther s[k] with
        | true =>
          rw [hb] at t1 he2
          have He := Lib.hid (he2.symm.trans he); clear he he2
          go_wp2_with (first
            | (go_at_call 64; refine (t1 _).mono ?_; rintro e w1 ⟨rfl, rfl⟩))
          exact ⟨⟨k + 1, by omega, by omega, by go_num, He.out⟩, by simp [intOf]; omega⟩
        | false =>
          rw [hb] at t1 he2
          have He := Lib.hid (he2.symm.trans he); clear he he2
          go_wp2_with (first
            | (go_at_call 64; refine (t1 _).mono ?_; rintro e w1 ⟨rfl, rfl⟩))
          go_ret
          exact ⟨by rw [← He.out]; rfl, rfl⟩
      · have He := Lib.hid ((all_end (s := s) (g := aOther) (by omega)).symm.trans he); clear he
        obtain rfl : k = s.size := by omega
        go_wp2
        go_ret
        exact ⟨by rw [← He.out]; rfl, rfl⟩

set_option maxRecDepth 100000 in
set_option maxHeartbeats 8000000 in
theorem isAtom_any (s : ByteArray) (w : World) : Calls Try.prog 49 #[.string s] w fun e w' => e = .returned (.bool (isAtm s.data.toList)) ∧ w' = w := by
  go_enter Try.func49, Try.ntmps49
  go_wp2_with (first
    | (go_at_call 62; refine (isNameA_any s _).mono ?_; rintro e w1 ⟨rfl, rfl⟩))
  go_ret
  exact ⟨rfl, rfl⟩

set_option maxRecDepth 100000 in
set_option maxHeartbeats 8000000 in
theorem refIsAtom_any (s : ByteArray) (w : World) : Calls Try.prog 38 #[.string s] w fun e w' => e = .returned (.bool (isAtm s.data.toList)) ∧ w' = w := by
  unfold isAtm
  by_cases h1 : s.size < 1
  · rw [nm_short (.inl h1)]
    go_enter Try.func38, Try.ntmps38
    go_wp2
    go_ret
    exact ⟨rfl, rfl⟩
  by_cases h2 : 16 < s.size
  · rw [nm_short (.inr h2)]
    have d1 : decide ((s.size : Int) < 1) = false := by simp; omega
    have d2 : decide ((s.size : Int) > 16) = true := by simp; omega
    go_enter Try.func38, Try.ntmps38
    go_wp2
    go_ret
    exact ⟨rfl, rfl⟩
  rw [nm_head (by omega) (by omega)]
  obtain ⟨R, hR⟩ : ∃ R, R = (s.data.toList.drop 1).all aOther := ⟨_, rfl⟩
  rw [← hR]
  have HR := Lib.hid hR; clear hR
  have d1 : decide ((s.size : Int) < 1) = false := by simp; omega
  have d2 : decide ((s.size : Int) > 16) = false := by simp; omega
  have t0 := rlower_any (s[0]'(by omega))
  cases hc : isLo (s[0]'(by omega)) with
  | false =>
    rw [hc] at t0
    go_enter Try.func38, Try.ntmps38
    go_wp2_with (first
      | (go_at_call 54; refine (t0 _).mono ?_; rintro e w1 ⟨rfl, rfl⟩))
    go_ret
    exact ⟨rfl, rfl⟩
  | true =>
    rw [hc] at t0
    go_enter Try.func38, Try.ntmps38
    go_wp2_with (first
      | (go_at_call 54; refine (t0 _).mono ?_; rintro e w1 ⟨rfl, rfl⟩))
    clear t0
    go_loop [3] (fun i => ∃ k : Nat, 1 ≤ k ∧ k ≤ s.size ∧ i = .int .i64 k ∧ (s.data.toList.drop k).all aOther = R) (fun i => s.size - (intOf i).toNat)
    case atStart => exact ⟨1, by omega, by omega, rfl, HR.out.symm⟩
    case round =>
      obtain ⟨k, hk1, hk2, rfl, he⟩ := hrel
      by_cases hlt : k < s.size
      · have he2 := all_step (g := aOther) hlt

        have trlower := rlower_any s[k]
        cases b0 : isLo s[k] with
        | true =>
          rw [b0] at trlower
          have hb : aOther s[k] = true := by simp [aOther, b0]
          rw [hb] at he2
          have He := Lib.hid (he2.symm.trans he); clear he he2 hb b0
          go_wp2_with (first
            | (go_at_call 54; refine (trlower _).mono ?_; rintro e w1 ⟨rfl, rfl⟩))
          exact ⟨⟨k + 1, by omega, by omega, by go_num, He.out⟩, by simp [intOf]; omega⟩
        | false =>
          rw [b0] at trlower
          have trdigit := rdigit_any s[k]
          cases b1 : isDi s[k] with
          | true =>
            rw [b1] at trdigit
            have hb : aOther s[k] = true := by simp [aOther, b0, b1]
            rw [hb] at he2
            have He := Lib.hid (he2.symm.trans he); clear he he2 hb b0 b1
            go_wp2_with (first
              | (go_at_call 54; refine (trlower _).mono ?_; rintro e w1 ⟨rfl, rfl⟩)
              | (go_at_call 55; refine (trdigit _).mono ?_; rintro e w1 ⟨rfl, rfl⟩))
            exact ⟨⟨k + 1, by omega, by omega, by go_num, He.out⟩, by simp [intOf]; omega⟩
          | false =>
            rw [b1] at trdigit
            have d9 := deq95 s[k]
            by_cases h9 : s[k] = 95
            · rw [decide_eq_true h9] at d9
              have d8 : ((s[k].toNat : Int) != 95) = false := by simp only [bne, d9]; rfl
              have hb : aOther s[k] = true := by simp [aOther, h9]
              rw [hb] at he2
              have He := Lib.hid (he2.symm.trans he); clear he he2 hb b0 b1 h9
              go_wp2_with (first
                | (go_at_call 54; refine (trlower _).mono ?_; rintro e w1 ⟨rfl, rfl⟩)
                | (go_at_call 55; refine (trdigit _).mono ?_; rintro e w1 ⟨rfl, rfl⟩))
              exact ⟨⟨k + 1, by omega, by omega, by go_num, He.out⟩, by simp [intOf]; omega⟩
            · rw [decide_eq_false h9] at d9
              have d8 : ((s[k].toNat : Int) != 95) = true := by simp only [bne, d9]; rfl
              have hb : aOther s[k] = false := by simp [aOther, b0, b1, h9]
              rw [hb] at he2
              have He := Lib.hid (he2.symm.trans he); clear he he2 hb b0 b1 h9
              go_wp2_with (first
                | (go_at_call 54; refine (trlower _).mono ?_; rintro e w1 ⟨rfl, rfl⟩)
                | (go_at_call 55; refine (trdigit _).mono ?_; rintro e w1 ⟨rfl, rfl⟩))
              go_ret
              exact ⟨by rw [← He.out]; rfl, rfl⟩
      · have He := Lib.hid ((all_end (s := s) (g := aOther) (by omega)).symm.trans he); clear he
        obtain rfl : k = s.size := by omega
        go_wp2
        go_ret
        exact ⟨by rw [← He.out]; rfl, rfl⟩

end Go.Proofs.Ytejiagmfinhjbaa
