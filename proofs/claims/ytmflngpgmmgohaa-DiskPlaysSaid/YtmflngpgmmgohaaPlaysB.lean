/-
  DiskPlays: the loop.
-/
import Derived.Test.YtmflngpgmmgohaaPlays
namespace Go.Proofs.Ytmflngpgmmgohaa
open Go.RowKit

/-- A slice of calls that came in. -/
def ActsRow (w : World) (b off len : Nat) : Prop :=
  ∀ i, i < len → ∃ (d n k : Int) (s : ByteArray), w.cell? ⟨b, off + i * 4, none⟩ = some (.int .i64 d) ∧ w.cell? ⟨b, off + i * 4 + 1, none⟩ = some (.int .i64 n) ∧ w.cell? ⟨b, off + i * 4 + 2, none⟩ = some (.int .i64 k) ∧ w.cell? ⟨b, off + i * 4 + 3, none⟩ = some (.string s) ∧
    (Lit.int .i64 n).wf = true ∧ (Lit.int .i64 k).wf = true ∧ s.size ≤ 9223372036854775807

structure PInv (w wr : World) : Prop where
  ex : ∃ D R, Two w.heap.size (w.heap.size + 1) D R wr ∧ Rel D R
  below : Below w.heap.size w wr

theorem PInv.start (w : World) (x : Int) : PInv w ((w.alloc (DM.obj ⟨min (max x 0) 16777216, ByteArray.empty, 0, false, 0, 0, false⟩)).alloc (RM.obj ⟨ByteArray.empty, 0, min (max x 0) 16777216, 0, false, false, 0⟩)) := by
  refine ⟨⟨⟨min (max x 0) 16777216, ByteArray.empty, 0, false, 0, 0, false⟩, ⟨ByteArray.empty, 0, min (max x 0) 16777216, 0, false, false, 0⟩, ⟨by omega, ?_, ?_⟩, rel_new x⟩, ?_⟩
  · exact (Below.heap_alloc _ _ _ (by simp)).trans (heap_new _ _)
  · have := heap_new (w.alloc (DM.obj ⟨min (max x 0) 16777216, ByteArray.empty, 0, false, 0, 0, false⟩)) (RM.obj ⟨ByteArray.empty, 0, min (max x 0) 16777216, 0, false, false, 0⟩)
    simpa using this
  · exact ((Below.refl _ w).alloc (Nat.le_refl _) _).alloc (by simp) _
theorem PInv.step {w wr wa w2 w3 : World} (hb : Below w.heap.size w wr) (ha : Below w.heap.size wr wa) (h : ActOk w.heap.size (w.heap.size + 1) w.heap.size wa w2) (n : Nat) (h3 : w3 = w2.drewN n) : PInv w w3 := by
  subst h3
  obtain ⟨⟨D, R, hT, hr⟩, hb2⟩ := h
  exact ⟨⟨D, R, hT.drewN n, hr⟩, (hb.trans (ha.trans hb2)).trans ⟨rfl, rfl, rfl, Nat.le_refl _, fun _ _ => rfl⟩⟩

set_option maxRecDepth 100000 in
set_option maxHeartbeats 8000000 in
theorem plays_walk (c : Int) (ab off len cap : Nat) (w : World) (hl : len ≤ 9223372036854775807) (hrow : ActsRow w ab off len) (hlt : 0 < len → ab < w.heap.size) :
    Calls Try.prog 4 #[.int .i64 c, .slice (some ⟨ab, off, none⟩) len cap] w fun e w' => e = .returned (.bool true) ∧ Below w.heap.size w w' := by
  have Hrow := Lib.hid hrow; clear hrow
  have Hlt := Lib.hid hlt; clear hlt
  by_cases h1 : (c.tmod 3 != 2) = true
  · skip
    go_enter Try.func4, Try.ntmps4
    go_wp2_with (first
          | (with_reducible refine Lex.wp_region_lex (by kernel_rfl) (by decide +kernel) ?_)
          | (with_reducible refine Lex.fin_on (by kernel_rfl) ?_)
          | (go_at_call 11; refine (new_any _ _).mono ?_; rintro e w0 ⟨rfl, hw0⟩; subst hw0)
          | (go_at_call 17; refine (refnew_any _ _).mono ?_; rintro e w0 ⟨rfl, hw0⟩; subst hw0))
    go_loopw [26] (fun i wr => ∃ k : Nat, k ≤ len ∧ i = .int .i64 k ∧ PInv w wr) (fun i _ => len - (intOf i).toNat)
    case atStart =>
      exact ⟨0, Nat.zero_le _, rfl, PInv.start _ _⟩
    case round =>
      obtain ⟨k, hk, rfl, hinv⟩ := hrel
      obtain ⟨⟨D, R, hT, hr⟩, hbel⟩ := hinv
      have HT := Lib.hid hT; clear hT
      have Hr := Lib.hid hr; clear hr
      by_cases hlt : k < len
      · obtain ⟨xd, xn, xk, xs, g0, g1, g2, g3, e1, e2, e3⟩ := Hrow.out k hlt
        have hab := Hlt.out (by omega)
        rw [← hbel.cell (p := ⟨ab, off + k * 4, none⟩) hab] at g0
        rw [← hbel.cell (p := ⟨ab, off + k * 4 + 1, none⟩) hab] at g1
        rw [← hbel.cell (p := ⟨ab, off + k * 4 + 2, none⟩) hab] at g2
        rw [← hbel.cell (p := ⟨ab, off + k * 4 + 3, none⟩) hab] at g3
        have E1 := Lib.hid e1; clear e1
        have E2 := Lib.hid e2; clear e2
        have hlt' : (k : Int) < len := by omega
        go_wp2_with (first
          | (with_reducible refine Lex.wp_region_lex (by kernel_rfl) (by decide +kernel) ?_)
          | (with_reducible refine Lex.fin_on (by kernel_rfl) ?_)
          | (go_at_call 18; refine (act37 _ _ w.heap.size D R xd xn xk xs _ e3 E1.out E2.out (by first | exact HT.out.alloc _ | exact (HT.out.alloc _).drew) Hr.out (Nat.le_refl _) (Nat.le_succ _) (by have := hbel.size; simp; omega)).mono ?_; rintro e w2 ⟨rfl, hA⟩; obtain ⟨D2, R2, hT2, hr2⟩ := id hA.ex; have HT2 := Lib.hid hT2; have Hr2 := Lib.hid hr2; clear hT2 hr2)
          | (go_at_call 19; refine (same37 _ _ D2 R2 _ HT2.out Hr2.out).mono ?_; rintro e w3 ⟨rfl, m, hm⟩))
        · exact ⟨⟨k + 1, by omega, by go_num, PInv.step hbel ((Below.refl _ _).alloc hbel.size _) hA m rfl⟩, by simp [intOf]; omega⟩
        · exact ⟨⟨k + 1, by omega, by go_num, ⟨⟨D, R, HT.out.alloc _, Hr.out⟩, hbel.alloc hbel.size _⟩⟩, by simp [intOf]; omega⟩
      · have hge : decide ((k : Int) < len) = false := by simp; omega
        go_wp2_with (first
          | (with_reducible refine Lex.wp_region_lex (by kernel_rfl) (by decide +kernel) ?_)
          | (with_reducible refine Lex.fin_on (by kernel_rfl) ?_)
          | (go_at_call 16; refine (awake37 _).mono ?_; rintro e w3 ⟨rfl, hb3⟩))
        go_ret
        exact ⟨rfl, hbel.trans (hb3.mono hbel.size)⟩
  · rw [Bool.not_eq_true] at h1
    go_enter Try.func4, Try.ntmps4
    go_wp2_with (first
          | (with_reducible refine Lex.wp_region_lex (by kernel_rfl) (by decide +kernel) ?_)
          | (with_reducible refine Lex.fin_on (by kernel_rfl) ?_)
          | (go_at_call 11; refine (new_any _ _).mono ?_; rintro e w0 ⟨rfl, hw0⟩; subst hw0)
          | (go_at_call 17; refine (refnew_any _ _).mono ?_; rintro e w0 ⟨rfl, hw0⟩; subst hw0))
    go_loopw [26] (fun i wr => ∃ k : Nat, k ≤ len ∧ i = .int .i64 k ∧ PInv w wr) (fun i _ => len - (intOf i).toNat)
    case atStart =>
      exact ⟨0, Nat.zero_le _, rfl, PInv.start _ _⟩
    case round =>
      obtain ⟨k, hk, rfl, hinv⟩ := hrel
      obtain ⟨⟨D, R, hT, hr⟩, hbel⟩ := hinv
      have HT := Lib.hid hT; clear hT
      have Hr := Lib.hid hr; clear hr
      by_cases hlt : k < len
      · obtain ⟨xd, xn, xk, xs, g0, g1, g2, g3, e1, e2, e3⟩ := Hrow.out k hlt
        have hab := Hlt.out (by omega)
        rw [← hbel.cell (p := ⟨ab, off + k * 4, none⟩) hab] at g0
        rw [← hbel.cell (p := ⟨ab, off + k * 4 + 1, none⟩) hab] at g1
        rw [← hbel.cell (p := ⟨ab, off + k * 4 + 2, none⟩) hab] at g2
        rw [← hbel.cell (p := ⟨ab, off + k * 4 + 3, none⟩) hab] at g3
        have E1 := Lib.hid e1; clear e1
        have E2 := Lib.hid e2; clear e2
        have hlt' : (k : Int) < len := by omega
        go_wp2_with (first
          | (with_reducible refine Lex.wp_region_lex (by kernel_rfl) (by decide +kernel) ?_)
          | (with_reducible refine Lex.fin_on (by kernel_rfl) ?_)
          | (go_at_call 18; refine (act37 _ _ w.heap.size D R xd xn xk xs _ e3 E1.out E2.out (by first | exact HT.out.alloc _ | exact (HT.out.alloc _).drew) Hr.out (Nat.le_refl _) (Nat.le_succ _) (by have := hbel.size; simp; omega)).mono ?_; rintro e w2 ⟨rfl, hA⟩; obtain ⟨D2, R2, hT2, hr2⟩ := id hA.ex; have HT2 := Lib.hid hT2; have Hr2 := Lib.hid hr2; clear hT2 hr2)
          | (go_at_call 19; refine (same37 _ _ D2 R2 _ HT2.out Hr2.out).mono ?_; rintro e w3 ⟨rfl, m, hm⟩))
        · exact ⟨⟨k + 1, by omega, by go_num, PInv.step hbel ((Below.refl _ _).alloc hbel.size _) hA m rfl⟩, by simp [intOf]; omega⟩
        · exact ⟨⟨k + 1, by omega, by go_num, ⟨⟨D, R, HT.out.alloc _, Hr.out⟩, hbel.alloc hbel.size _⟩⟩, by simp [intOf]; omega⟩
      · have hge : decide ((k : Int) < len) = false := by simp; omega
        go_wp2_with (first
          | (with_reducible refine Lex.wp_region_lex (by kernel_rfl) (by decide +kernel) ?_)
          | (with_reducible refine Lex.fin_on (by kernel_rfl) ?_)
          | (go_at_call 16; refine (awake37 _).mono ?_; rintro e w3 ⟨rfl, hb3⟩))
        go_ret
        exact ⟨rfl, hbel.trans (hb3.mono hbel.size)⟩

set_option maxRecDepth 100000 in
set_option maxHeartbeats 8000000 in
theorem plays_nil (c : Int) (ao : Option Addr) (cap : Nat) (w : World) :
    Calls Try.prog 4 #[.int .i64 c, .slice ao 0 cap] w fun e w' => e = .returned (.bool true) ∧ Below w.heap.size w w' := by
  by_cases h1 : (c.tmod 3 != 2) = true
  · skip
    go_enter Try.func4, Try.ntmps4
    go_wp2_with (first
          | (with_reducible refine Lex.wp_region_lex (by kernel_rfl) (by decide +kernel) ?_)
          | (with_reducible refine Lex.fin_on (by kernel_rfl) ?_)
          | (go_at_call 11; refine (new_any _ _).mono ?_; rintro e w0 ⟨rfl, hw0⟩; subst hw0)
          | (go_at_call 17; refine (refnew_any _ _).mono ?_; rintro e w0 ⟨rfl, hw0⟩; subst hw0))
    refine wp_loop_rounds 1 ?_
    rw [rounds_succ]
    go_wp2_with (first
          | (with_reducible refine Lex.wp_region_lex (by kernel_rfl) (by decide +kernel) ?_)
          | (with_reducible refine Lex.fin_on (by kernel_rfl) ?_)
          | (go_at_call 16; refine (awake37 _).mono ?_; rintro e w3 ⟨rfl, hb3⟩))
    go_ret
    exact ⟨rfl, ((((Below.refl _ w).alloc (Nat.le_refl _) _).alloc (by simp) _)).trans (hb3.mono (by simp; omega))⟩
  · rw [Bool.not_eq_true] at h1
    go_enter Try.func4, Try.ntmps4
    go_wp2_with (first
          | (with_reducible refine Lex.wp_region_lex (by kernel_rfl) (by decide +kernel) ?_)
          | (with_reducible refine Lex.fin_on (by kernel_rfl) ?_)
          | (go_at_call 11; refine (new_any _ _).mono ?_; rintro e w0 ⟨rfl, hw0⟩; subst hw0)
          | (go_at_call 17; refine (refnew_any _ _).mono ?_; rintro e w0 ⟨rfl, hw0⟩; subst hw0))
    refine wp_loop_rounds 1 ?_
    rw [rounds_succ]
    go_wp2_with (first
          | (with_reducible refine Lex.wp_region_lex (by kernel_rfl) (by decide +kernel) ?_)
          | (with_reducible refine Lex.fin_on (by kernel_rfl) ?_)
          | (go_at_call 16; refine (awake37 _).mono ?_; rintro e w3 ⟨rfl, hb3⟩))
    go_ret
    exact ⟨rfl, ((((Below.refl _ w).alloc (Nat.le_refl _) _).alloc (by simp) _)).trans (hb3.mono (by simp; omega))⟩
end Go.Proofs.Ytmflngpgmmgohaa
