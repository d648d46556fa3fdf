/-
  Walks: opening seals.
-/
import Derived.Test.YtmflngpgmmgohaaSe
namespace Go.Proofs.Ytmflngpgmmgohaa
open Go.RowKit

theorem beq_yes {a b : ByteArray} (h : a = b) : (a.toList == b.toList) = true := by subst h; simp
theorem beq_no {a b : ByteArray} (h : ¬ a = b) : (a.toList == b.toList) = false := by
  rw [beq_eq_false_iff_ne]; intro h2; apply h; rw [ByteArray.toList_eq, ByteArray.toList_eq] at h2
  cases a; cases b; simp_all

def openS (s : ByteArray) : ByteArray := s.extract 0 (s.size - 4)
def openV (s : ByteArray) : ByteArray × Int :=
  if s.size < 4 then (⟨#[]⟩, 26) else if sealB (openS s) = s then (openS s, 0) else (⟨#[]⟩, 25)

set_option maxRecDepth 100000 in
set_option maxHeartbeats 8000000 in
theorem open_any (s : ByteArray) (hs : s.size ≤ 1048576) (w : World) :
    Calls Try.prog 71 #[.string s] w fun e w' => e = .returned (.tuple #[.string (openV s).1, .int .i64 (openV s).2]) ∧ Below w.heap.size w w' := by
  by_cases h4 : s.size < 4
  · have e0 : openV s = (⟨#[]⟩, 26) := by simp [openV, h4]
    rw [e0]
    go_enter Try.func71, Try.ntmps71
    go_wp2_with (first
      | (with_reducible refine Lex.wp_region_lex (by kernel_rfl) (by decide +kernel) ?_)
      | (with_reducible refine Lex.fin_on (by kernel_rfl) ?_))
    go_ret2
    exact ⟨rfl, Below.refl _ _⟩
  · have hz : (openS s).size ≤ 1048576 := by simp [openS]; omega
    have hx : ((s.size : Int) - 4).toNat = s.size - 4 := by omega
    by_cases h5 : sealB (openS s) = s
    · have e0 : openV s = (openS s, 0) := by simp [openV, h4, h5]
      have hb := beq_yes h5
      have H5 := Lib.hid h5; clear h5
      rw [e0]
      go_enter Try.func71, Try.ntmps71
      go_wp2_with (first
        | (with_reducible refine Lex.wp_region_lex (by kernel_rfl) (by decide +kernel) ?_)
        | (with_reducible refine Lex.fin_on (by kernel_rfl) ?_)
        | (go_at_call 54; refine (seal_any (openS s) hz _).mono ?_; rintro e w1 ⟨rfl, hb1⟩))
      go_ret2
      exact ⟨rfl, hb1⟩
    · have e0 : openV s = (⟨#[]⟩, 25) := by simp [openV, h4, h5]
      have hb := beq_no h5
      have H5 := Lib.hid h5; clear h5
      rw [e0]
      go_enter Try.func71, Try.ntmps71
      go_wp2_with (first
        | (with_reducible refine Lex.wp_region_lex (by kernel_rfl) (by decide +kernel) ?_)
        | (with_reducible refine Lex.fin_on (by kernel_rfl) ?_)
        | (go_at_call 54; refine (seal_any (openS s) hz _).mono ?_; rintro e w1 ⟨rfl, hb1⟩))
      go_ret2
      exact ⟨rfl, hb1⟩

set_option maxRecDepth 100000 in
set_option maxHeartbeats 8000000 in
theorem refopen_any (s : ByteArray) (hs : s.size ≤ 1048576) (w : World) :
    Calls Try.prog 59 #[.string s] w fun e w' => e = .returned (.tuple #[.string (openV s).1, .int .i64 (openV s).2]) ∧ Below w.heap.size w w' := by
  by_cases h4 : s.size < 4
  · have e0 : openV s = (⟨#[]⟩, 26) := by simp [openV, h4]
    rw [e0]
    go_enter Try.func59, Try.ntmps59
    go_wp2_with (first
      | (with_reducible refine Lex.wp_region_lex (by kernel_rfl) (by decide +kernel) ?_)
      | (with_reducible refine Lex.fin_on (by kernel_rfl) ?_))
    go_ret2
    exact ⟨rfl, Below.refl _ _⟩
  · have hz : (openS s).size ≤ 1048576 := by simp [openS]; omega
    have hx : ((s.size : Int) - 4).toNat = s.size - 4 := by omega
    by_cases h5 : sealB (openS s) = s
    · have e0 : openV s = (openS s, 0) := by simp [openV, h4, h5]
      have hb := beq_yes h5
      have H5 := Lib.hid h5; clear h5
      rw [e0]
      go_enter Try.func59, Try.ntmps59
      go_wp2_with (first
        | (with_reducible refine Lex.wp_region_lex (by kernel_rfl) (by decide +kernel) ?_)
        | (with_reducible refine Lex.fin_on (by kernel_rfl) ?_)
        | (go_at_call 31; refine (refseal_any (openS s) hz _).mono ?_; rintro e w1 ⟨rfl, hb1⟩))
      go_ret2
      exact ⟨by simp [openS], hb1⟩
    · have e0 : openV s = (⟨#[]⟩, 25) := by simp [openV, h4, h5]
      have hb := beq_no h5
      have H5 := Lib.hid h5; clear h5
      rw [e0]
      go_enter Try.func59, Try.ntmps59
      go_wp2_with (first
        | (with_reducible refine Lex.wp_region_lex (by kernel_rfl) (by decide +kernel) ?_)
        | (with_reducible refine Lex.fin_on (by kernel_rfl) ?_)
        | (go_at_call 31; refine (refseal_any (openS s) hz _).mono ?_; rintro e w1 ⟨rfl, hb1⟩))
      go_ret2
      exact ⟨rfl, hb1⟩
end Go.Proofs.Ytmflngpgmmgohaa
