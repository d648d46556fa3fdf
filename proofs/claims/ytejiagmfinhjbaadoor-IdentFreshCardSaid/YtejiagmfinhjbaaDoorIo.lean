/-
  Walks: the law of fresh atoms.
-/
import Derived.Test.YtejiagmfinhjbaaDoorIv
namespace Go.Proofs.YtejiagmfinhjbaaDoor
open Go.RowKit Go.Ident

theorem bl_lt (a : List UInt8) : ∀ b, Op.bytesLess a b = true → a < b := by
  induction a with
  | nil => intro b h; cases b with
    | nil => simp [Op.bytesLess] at h
    | cons y q => exact List.nil_lt_cons _ _
  | cons x r ih =>
    intro b h
    cases b with
    | nil => simp [Op.bytesLess] at h
    | cons y q =>
      simp only [Op.bytesLess, Bool.or_eq_true, Bool.and_eq_true, decide_eq_true_eq, beq_iff_eq] at h
      rw [List.cons_lt_cons_iff]
      rcases h with h | ⟨h1, h2⟩
      · exact .inl h
      · exact .inr ⟨h1, ih q h2⟩
theorem fre_spec {ss : List ByteArray} (hss : ss.length ≤ 60) : isAtm (fre 0 (bys ss)) = true ∧ fre 0 (bys ss) ∉ bys ss ∧ (fre 0 (bys ss)).length ≤ 2 ∧
    ∀ s : List UInt8, isAtm s = true → (s.length < (fre 0 (bys ss)).length ∨ s.length = (fre 0 (bys ss)).length ∧ Op.bytesLess s (fre 0 (bys ss)) = true) → s ∈ bys ss := by
  have hN := freN_spec (kind := 0) (by omega) (used := bys ss) (by simp [bys]; exact hss)
  have hf : fre 0 (bys ss) = seqA (freN 0 (bys ss)) := rfl
  rw [hf]
  refine ⟨seqA_atm hN.1, hN.2.1, seqK_len (kind := 0) (by omega) (by have := hN.1; omega), fun s hs hb => ?_⟩
  obtain ⟨m, hm, rfl⟩ := before_seq hN.1 hs (by
    rcases hb with h | ⟨h1, h2⟩
    · exact .inl h
    · exact .inr ⟨h1, bl_lt _ _ h2⟩)
  exact hN.2.2 m hm

set_option maxRecDepth 100000 in
set_option maxHeartbeats 16000000 in
theorem fresh_walk (p : Option Addr) (cap : Nat) (ss : List ByteArray) (s : ByteArray) (w : World) (hst : Strs w p ss) (hmx : ss.length ≤ maxLen) :
    Calls Tryd.prog 6 #[.slice p ss.length cap, .string s] w fun e w' => e = .returned (.bool true) ∧ Below w.heap.size w w' := by
  by_cases hss : ss.length ≤ 60
  · have d60 : decide ((ss.length : Int) > 60) = false := by simp; omega
    have hF := freshAtom_any p cap ss hss w hst
    have hR := fun wr hb => refFreshAtom_any p cap ss hss wr (hst.below hb)
    have hA := refIsAtom_any s
    have hAF := refIsAtom_any ⟨(fre 0 (bys ss)).toArray⟩
    obtain ⟨hat, hno, hl2, hbe⟩ := fre_spec hss
    rw [show isAtm (⟨(fre 0 (bys ss)).toArray⟩ : ByteArray).data.toList = true from hat] at hAF
    obtain ⟨m, hm⟩ : ∃ m, m = ss.length := ⟨_, rfl⟩
    rw [← hm] at hF hR d60 ⊢
    have hmb : m ≤ 60 := by omega
    have hFl : (⟨(fre 0 (bys ss)).toArray⟩ : ByteArray).data.toList = fre 0 (bys ss) := rfl
    have hFz : (⟨(fre 0 (bys ss)).toArray⟩ : ByteArray).size = (fre 0 (bys ss)).length := by show (fre 0 (bys ss)).toArray.size = _; simp
    generalize (⟨(fre 0 (bys ss)).toArray⟩ : ByteArray) = F at *
    generalize fre 0 (bys ss) = FL at *
    have Hst := Lib.hid hst; have Hm := Lib.hid hm; have Hno := Lib.hid hno; have Hbe := Lib.hid hbe; have HFl := Lib.hid hFl; have HFz := Lib.hid hFz
    clear hst hm hno hbe hFl hFz hss hat hmx
    have hfin : ∀ (inb : Bool), inb = decide (s.data.toList ∈ bys ss) → isAtm s.data.toList = true → ((s.size : Int) < (F.size : Int) ∨ (s.size : Int) = (F.size : Int) ∧ Op.bytesLess s.toList F.toList = true) → inb = true := by
      intro inb h1 h2 h3
      rw [h1, decide_eq_true]
      refine Hbe.out _ h2 ?_
      rw [list_size, ← HFz.out]
      rcases h3 with h | ⟨h, h4⟩
      · exact .inl (by omega)
      · refine .inr ⟨by omega, ?_⟩
        rw [← list_eq, ← list_eq, HFl.out] at h4
        exact h4
    have Hfin := Lib.hid hfin; clear hfin
    go_enter Tryd.func6, Tryd.ntmps6
    go_wp2_with (first
      | (go_at_call 21; refine hF.mono ?_; rintro e w1 ⟨rfl, hb1⟩; have Hb1 := Lib.hid hb1; clear hb1))
    have hR1 := hR w1 Hb1.out
    clear hF
    go_loop [6, 7, 8] (fun a b i => ∃ k : Nat, k ≤ m ∧ i = .int .i64 k ∧ b = .bool false ∧ ∃ inb : Bool, a = .bool inb ∧ inb = decide (s.data.toList ∈ bys (ss.take k))) (fun _ _ i => m - (intOf i).toNat)
    case atStart => exact ⟨0, by omega, rfl, rfl, false, rfl, by simp [bys]⟩
    case round =>
      obtain ⟨k, hk, rfl, rfl, inb, rfl, hin⟩ := hrel
      by_cases hlt : k < m
      · have hks : k < ss.length := by rw [← Hm.out]; exact hlt
        obtain ⟨a, o, rfl, ha, c0⟩ := (Hst.out.below Hb1.out).cell k hks
        have hst2 := Lib.hid (bys_take hks)
        have hmem := bys_mem hks
        obtain ⟨x, hx⟩ : ∃ x, x = ss[k] := ⟨_, rfl⟩
        rw [← hx] at c0 hst2 hmem
        have hxF : (x.toList == F.toList) = false := by
          rw [beq_eq_false_iff_ne, ← list_eq, ← list_eq, HFl.out]
          intro h; rw [h] at hmem; exact Hno.out hmem
        clear hx hks hmem
        cases inb with
        | true =>
          have Hin := Lib.hid hin; clear hin
          go_wp2
          refine ⟨⟨k + 1, by omega, by go_num, rfl, true, rfl, ?_⟩, by simp [intOf]; omega⟩
          rw [hst2.out, eq_comm, decide_eq_true_eq, List.mem_append]
          exact .inl (by have := Hin.out; rw [eq_comm, decide_eq_true_eq] at this; exact this)
        | false =>
          have Hin := Lib.hid hin; clear hin
          cases he : (x.toList == s.toList) with
          | true =>
            go_wp2
            refine ⟨⟨k + 1, by omega, by go_num, rfl, true, rfl, ?_⟩, by simp [intOf]; omega⟩
            rw [hst2.out, eq_comm, decide_eq_true_eq, List.mem_append, List.mem_singleton]
            rw [beq_iff_eq, ← list_eq, ← list_eq] at he
            exact .inr he.symm
          | false =>
            go_wp2
            refine ⟨⟨k + 1, by omega, by go_num, rfl, false, rfl, ?_⟩, by simp [intOf]; omega⟩
            rw [hst2.out, eq_comm, decide_eq_false_iff_not, List.mem_append, List.mem_singleton]
            rw [beq_eq_false_iff_ne, ← list_eq, ← list_eq] at he
            rintro (h | h)
            · have := Hin.out; rw [eq_comm, decide_eq_false_iff_not] at this; exact this h
            · exact he h.symm
      · have hin2 : inb = decide (s.data.toList ∈ bys ss) := by
          have hk2 : k = ss.length := by rw [← Hm.out]; omega
          rw [hk2, List.take_length] at hin; exact hin
        have hfn := Hfin.out inb hin2
        clear hin hin2
        obtain rfl : k = m := by omega
        cases hs : isAtm s.data.toList with
        | false =>
          rw [hs] at hA
          clear hfn hs
          by_cases h1 : s.size < F.size
          · have d1 : decide (s.size < F.size) = true := decide_eq_true h1
            clear h1
            go_wp2_with (first
              | (go_at_call 11; first
                  | (with_reducible refine (hAF _).mono ?_; rintro e w2 ⟨rfl, rfl⟩)
                  | (with_reducible refine (hA _).mono ?_; rintro e w2 ⟨rfl, rfl⟩))
              | (go_at_call 22; refine hR1.mono ?_; rintro e w3 ⟨rfl, hb3⟩; have Hb3 := Lib.hid hb3; clear hb3)
              | (go_at_call 16; refine (awake_any _).mono ?_; rintro e w4 ⟨rfl, hb4⟩; have Hb4 := Lib.hid hb4; clear hb4))
            go_ret
            exact ⟨rfl, below_trans (below_trans Hb1.out Hb3.out) Hb4.out⟩
          have d1 : decide (s.size < F.size) = false := decide_eq_false h1
          by_cases h2 : s.size = F.size
          · have e1 : (s.size == F.size) = true := by simpa using h2
            have e2 : decide (s.size = F.size) = true := decide_eq_true h2
            have e3 : (s.size : Int) = (F.size : Int) := by omega
            cases h3 : Op.bytesLess s.toList F.toList with
            | true =>
              clear h1 h2
              go_wp2_with (first
                | (go_at_call 11; first
                    | (with_reducible refine (hAF _).mono ?_; rintro e w2 ⟨rfl, rfl⟩)
                    | (with_reducible refine (hA _).mono ?_; rintro e w2 ⟨rfl, rfl⟩))
                | (go_at_call 22; refine hR1.mono ?_; rintro e w3 ⟨rfl, hb3⟩; have Hb3 := Lib.hid hb3; clear hb3)
                | (go_at_call 16; refine (awake_any _).mono ?_; rintro e w4 ⟨rfl, hb4⟩; have Hb4 := Lib.hid hb4; clear hb4))
              go_ret
              exact ⟨rfl, below_trans (below_trans Hb1.out Hb3.out) Hb4.out⟩
            | false =>
              clear h1 h2
              go_wp2_with (first
                | (go_at_call 11; first
                    | (with_reducible refine (hAF _).mono ?_; rintro e w2 ⟨rfl, rfl⟩)
                    | (with_reducible refine (hA _).mono ?_; rintro e w2 ⟨rfl, rfl⟩))
                | (go_at_call 22; refine hR1.mono ?_; rintro e w3 ⟨rfl, hb3⟩; have Hb3 := Lib.hid hb3; clear hb3)
                | (go_at_call 16; refine (awake_any _).mono ?_; rintro e w4 ⟨rfl, hb4⟩; have Hb4 := Lib.hid hb4; clear hb4))
              go_ret
              exact ⟨rfl, below_trans (below_trans Hb1.out Hb3.out) Hb4.out⟩
          · have e1 : (s.size == F.size) = false := by simpa using h2
            have e2 : decide (s.size = F.size) = false := decide_eq_false h2
            have e3 : ¬ (s.size : Int) = (F.size : Int) := by omega
            clear h1 h2
            go_wp2_with (first
              | (go_at_call 11; first
                  | (with_reducible refine (hAF _).mono ?_; rintro e w2 ⟨rfl, rfl⟩)
                  | (with_reducible refine (hA _).mono ?_; rintro e w2 ⟨rfl, rfl⟩))
              | (go_at_call 22; refine hR1.mono ?_; rintro e w3 ⟨rfl, hb3⟩; have Hb3 := Lib.hid hb3; clear hb3)
              | (go_at_call 16; refine (awake_any _).mono ?_; rintro e w4 ⟨rfl, hb4⟩; have Hb4 := Lib.hid hb4; clear hb4))
            go_ret
            exact ⟨rfl, below_trans (below_trans Hb1.out Hb3.out) Hb4.out⟩
        | true =>
          rw [hs] at hA
          by_cases h1 : s.size < F.size
          · have d1 : decide (s.size < F.size) = true := decide_eq_true h1
            obtain rfl := hfn hs (.inl (by omega))
            clear h1 hfn hs
            go_wp2_with (first
              | (go_at_call 11; first
                  | (with_reducible refine (hAF _).mono ?_; rintro e w2 ⟨rfl, rfl⟩)
                  | (with_reducible refine (hA _).mono ?_; rintro e w2 ⟨rfl, rfl⟩))
              | (go_at_call 22; refine hR1.mono ?_; rintro e w3 ⟨rfl, hb3⟩; have Hb3 := Lib.hid hb3; clear hb3)
              | (go_at_call 16; refine (awake_any _).mono ?_; rintro e w4 ⟨rfl, hb4⟩; have Hb4 := Lib.hid hb4; clear hb4))
            go_ret
            exact ⟨rfl, below_trans (below_trans Hb1.out Hb3.out) Hb4.out⟩
          have d1 : decide (s.size < F.size) = false := decide_eq_false h1
          by_cases h2 : s.size = F.size
          · have e1 : (s.size == F.size) = true := by simpa using h2
            have e2 : decide (s.size = F.size) = true := decide_eq_true h2
            have e3 : (s.size : Int) = (F.size : Int) := by omega
            cases h3 : Op.bytesLess s.toList F.toList with
            | true =>
              obtain rfl := hfn hs (.inr ⟨by omega, h3⟩)
              clear h1 h2 hfn hs
              go_wp2_with (first
                | (go_at_call 11; first
                    | (with_reducible refine (hAF _).mono ?_; rintro e w2 ⟨rfl, rfl⟩)
                    | (with_reducible refine (hA _).mono ?_; rintro e w2 ⟨rfl, rfl⟩))
                | (go_at_call 22; refine hR1.mono ?_; rintro e w3 ⟨rfl, hb3⟩; have Hb3 := Lib.hid hb3; clear hb3)
                | (go_at_call 16; refine (awake_any _).mono ?_; rintro e w4 ⟨rfl, hb4⟩; have Hb4 := Lib.hid hb4; clear hb4))
              go_ret
              exact ⟨rfl, below_trans (below_trans Hb1.out Hb3.out) Hb4.out⟩
            | false =>
              clear h1 h2 hfn hs
              go_wp2_with (first
                | (go_at_call 11; first
                    | (with_reducible refine (hAF _).mono ?_; rintro e w2 ⟨rfl, rfl⟩)
                    | (with_reducible refine (hA _).mono ?_; rintro e w2 ⟨rfl, rfl⟩))
                | (go_at_call 22; refine hR1.mono ?_; rintro e w3 ⟨rfl, hb3⟩; have Hb3 := Lib.hid hb3; clear hb3)
                | (go_at_call 16; refine (awake_any _).mono ?_; rintro e w4 ⟨rfl, hb4⟩; have Hb4 := Lib.hid hb4; clear hb4))
              go_ret
              exact ⟨rfl, below_trans (below_trans Hb1.out Hb3.out) Hb4.out⟩
          · have e1 : (s.size == F.size) = false := by simpa using h2
            have e2 : decide (s.size = F.size) = false := decide_eq_false h2
            have e3 : ¬ (s.size : Int) = (F.size : Int) := by omega
            clear h1 h2 hfn hs
            go_wp2_with (first
              | (go_at_call 11; first
                  | (with_reducible refine (hAF _).mono ?_; rintro e w2 ⟨rfl, rfl⟩)
                  | (with_reducible refine (hA _).mono ?_; rintro e w2 ⟨rfl, rfl⟩))
              | (go_at_call 22; refine hR1.mono ?_; rintro e w3 ⟨rfl, hb3⟩; have Hb3 := Lib.hid hb3; clear hb3)
              | (go_at_call 16; refine (awake_any _).mono ?_; rintro e w4 ⟨rfl, hb4⟩; have Hb4 := Lib.hid hb4; clear hb4))
            go_ret
            exact ⟨rfl, below_trans (below_trans Hb1.out Hb3.out) Hb4.out⟩
  · have d60 : decide ((ss.length : Int) > 60) = true := by simp; omega
    clear hst
    generalize ss.length = m at *
    go_enter Tryd.func6, Tryd.ntmps6
    go_wp2_with (first
      | (go_at_call 16; refine (awake_any _).mono ?_; rintro e w4 ⟨rfl, hb4⟩; have Hb4 := Lib.hid hb4; clear hb4))
    go_ret
    exact ⟨rfl, Hb4.out⟩
end Go.Proofs.YtejiagmfinhjbaaDoor
