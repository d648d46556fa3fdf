/-
  Walks: the laws of quotes and of unquotes.
-/
import Derived.Test.YtejiagmfinhjbaaDoorIl
namespace Go.Proofs.YtejiagmfinhjbaaDoor
open Go.RowKit Go.Ident

theorem flat_ge (l : List UInt8) : l.length ≤ (flat l).length := by
  induction l with
  | nil => simp
  | cons c r ih =>
    have hf : flat (c :: r) = q1 c ++ flat r := rfl
    have h1 : 1 ≤ (q1 c).length := by unfold q1; split <;> (try split) <;> simp
    rw [hf]; simp; omega
theorem quo_size (l : List UInt8) : (⟨(quo l).toArray⟩ : ByteArray).size ≤ 4 * l.length + 2 := by
  have := flat_len l
  show (quo l).toArray.size ≤ _
  simp [quo]; omega
theorem list_size (s : ByteArray) : s.data.toList.length = s.size := by show _ = s.data.size; simp

set_option maxRecDepth 100000 in
set_option maxHeartbeats 8000000 in
theorem quotes_walk (s : ByteArray) (w : World) : Calls Tryd.prog 4 #[.string s] w fun e w' => e = .returned (.bool true) ∧ Below w.heap.size w w' := by
  by_cases hs : 400 < s.size
  · have d1 : decide ((s.size : Int) > 400) = true := by simp; omega
    go_enter Tryd.func4, Tryd.ntmps4
    go_wp2_with (first
      | (go_at_call 16; refine (awake_any _).mono ?_; rintro e w1 ⟨rfl, hb1⟩; have Hb1 := Lib.hid hb1; clear hb1))
    go_ret
    exact ⟨rfl, Hb1.out⟩
  · have d1 : decide ((s.size : Int) > 400) = false := by simp; omega
    have hQ := quote_any s (by omega)
    have hR := refQuote_any s (by omega)
    have hqs := quo_size s.data.toList
    rw [list_size] at hqs
    have hU := unquote_any ⟨(quo s.data.toList).toArray⟩ (by omega)
    have hun : unqR ⟨(quo s.data.toList).toArray⟩ = .returned (.tuple #[.string s, .int .i64 0]) := unqR_some (s := ⟨(quo s.data.toList).toArray⟩) (unq_quo _)
    rw [hun] at hU
    clear hun hqs
    generalize (⟨(quo s.data.toList).toArray⟩ : ByteArray) = q at *
    go_enter Tryd.func4, Tryd.ntmps4
    go_wp2_with (first
      | (go_at_call 17; refine (hQ _).mono ?_; rintro e w1 ⟨rfl, hb1⟩; have Hb1 := Lib.hid hb1; clear hb1)
      | (go_at_call 18; refine (hU _).mono ?_; rintro e w2 ⟨rfl, hb2⟩; have Hb2 := Lib.hid hb2; clear hb2)
      | (go_at_call 19; refine (hR _).mono ?_; rintro e w3 ⟨rfl, hb3⟩; have Hb3 := Lib.hid hb3; clear hb3)
      | (go_at_call 16; refine (awake_any _).mono ?_; rintro e w4 ⟨rfl, hb4⟩; have Hb4 := Lib.hid hb4; clear hb4))
    go_ret
    exact ⟨rfl, below_trans (below_trans (below_trans Hb1.out Hb2.out) Hb3.out) Hb4.out⟩

set_option maxRecDepth 100000 in
set_option maxHeartbeats 8000000 in
theorem unquotes_walk (s : ByteArray) (w : World) : Calls Tryd.prog 5 #[.string s] w fun e w' => e = .returned (.bool true) ∧ Below w.heap.size w w' := by
  by_cases hs : 400 < s.size
  · have d1 : decide ((s.size : Int) > 400) = true := by simp; omega
    go_enter Tryd.func5, Tryd.ntmps5
    go_wp2_with (first
      | (go_at_call 16; refine (awake_any _).mono ?_; rintro e w1 ⟨rfl, hb1⟩; have Hb1 := Lib.hid hb1; clear hb1))
    go_ret
    exact ⟨rfl, Hb1.out⟩
  · have d1 : decide ((s.size : Int) > 400) = false := by simp; omega
    have hU := unquote_any s (by omega)
    have hR := refUnquote_any s (by omega)
    cases hq : unq s.data.toList with
    | none =>
      rw [unqR_none hq] at hU
      rw [unqB_none hq] at hR
      go_enter Tryd.func5, Tryd.ntmps5
      go_wp2_with (first
        | (go_at_call 18; refine (hU _).mono ?_; rintro e w1 ⟨rfl, hb1⟩; have Hb1 := Lib.hid hb1; clear hb1)
        | (go_at_call 20; refine (hR _).mono ?_; rintro e w2 ⟨rfl, hb2⟩; have Hb2 := Lib.hid hb2; clear hb2)
        | (go_at_call 16; refine (awake_any _).mono ?_; rintro e w4 ⟨rfl, hb4⟩; have Hb4 := Lib.hid hb4; clear hb4))
      go_ret
      exact ⟨rfl, below_trans (below_trans Hb1.out Hb2.out) Hb4.out⟩
    | some t =>
      rw [unqR_some hq] at hU
      rw [unqB_some hq] at hR
      have hst := (unq_iff _ _).1 hq
      have hlen : t.length ≤ s.size := by
        rw [← list_size, hst]
        have := flat_ge t
        simp [quo]; omega
      have hQ := quote_any ⟨t.toArray⟩ (by show t.toArray.size ≤ _; simp; omega)
      have hqs : (⟨(quo (⟨t.toArray⟩ : ByteArray).data.toList).toArray⟩ : ByteArray) = s := by
        show (⟨(quo t).toArray⟩ : ByteArray) = s
        rw [← hst]
      rw [hqs] at hQ
      clear hqs hst hq
      go_enter Tryd.func5, Tryd.ntmps5
      go_wp2_with (first
        | (go_at_call 17; refine (hQ _).mono ?_; rintro e w3 ⟨rfl, hb3⟩; have Hb3 := Lib.hid hb3; clear hb3)
        | (go_at_call 18; refine (hU _).mono ?_; rintro e w1 ⟨rfl, hb1⟩; have Hb1 := Lib.hid hb1; clear hb1)
        | (go_at_call 20; refine (hR _).mono ?_; rintro e w2 ⟨rfl, hb2⟩; have Hb2 := Lib.hid hb2; clear hb2)
        | (go_at_call 16; refine (awake_any _).mono ?_; rintro e w4 ⟨rfl, hb4⟩; have Hb4 := Lib.hid hb4; clear hb4))
      go_ret
      exact ⟨rfl, below_trans (below_trans (below_trans Hb1.out Hb2.out) Hb3.out) Hb4.out⟩
end Go.Proofs.YtejiagmfinhjbaaDoor
