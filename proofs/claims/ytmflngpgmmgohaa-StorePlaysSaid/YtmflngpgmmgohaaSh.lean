/-
  Walks: cutting texts, reading records.
-/
import Derived.Test.YtmflngpgmmgohaaSg
namespace Go.Proofs.Ytmflngpgmmgohaa
open Go.RowKit

def cutV (s : ByteArray) : Option (ByteArray × ByteArray) :=
  match lenV s with
  | some (n, k) => if (s.extract k s.size).size < n then none else some ((s.extract k s.size).extract 0 n, (s.extract k s.size).extract n (s.extract k s.size).size)
  | none => none

def cutR (o : Option (ByteArray × ByteArray)) : Ending :=
  match o with
  | some (a, b) => .returned (.tuple #[.string a, .string b, .bool true])
  | none => .returned (.tuple #[.string ⟨#[]⟩, .string ⟨#[]⟩, .bool false])

theorem cutV_none {s : ByteArray} (h : lenV s = none) : cutV s = none := by simp [cutV, h]
theorem cutV_long {s : ByteArray} {n k : Nat} (h : lenV s = some (n, k)) (h2 : (s.extract k s.size).size < n) : cutV s = none := by simp only [cutV, h]; rw [if_pos h2]
theorem cutV_some {s : ByteArray} {n k : Nat} (h : lenV s = some (n, k)) (h2 : ¬ (s.extract k s.size).size < n) : cutV s = some ((s.extract k s.size).extract 0 n, (s.extract k s.size).extract n (s.extract k s.size).size) := by simp only [cutV, h]; rw [if_neg h2]

theorem extract_size_le (s : ByteArray) (a b : Nat) : (s.extract a b).size ≤ s.size := by simp; omega
theorem cutV_size {s a b : ByteArray} (h : cutV s = some (a, b)) : a.size ≤ s.size ∧ b.size ≤ s.size := by
  unfold cutV at h
  split at h
  · split at h
    · exact absurd h (by simp)
    · simp only [Option.some.injEq, Prod.mk.injEq] at h
      obtain ⟨rfl, rfl⟩ := h
      exact ⟨Nat.le_trans (extract_size_le _ _ _) (extract_size_le _ _ _), Nat.le_trans (extract_size_le _ _ _) (extract_size_le _ _ _)⟩
  · exact absurd h (by simp)

set_option maxRecDepth 100000 in
set_option maxHeartbeats 8000000 in
theorem cut_any (s : ByteArray) (hs : s.size ≤ 1048576) (w : World) :
    Calls Try.prog 70 #[.string s] w fun e w' => e = cutR (cutV s) ∧ Below w.heap.size w w' := by
  have hL := length_any s hs w
  rcases h : lenV s with _ | ⟨n, k⟩
  · rw [cutV_none h]
    rw [h] at hL
    go_enter Try.func70, Try.ntmps70
    go_wp2_with (first
      | (with_reducible refine Lex.wp_region_lex (by kernel_rfl) (by decide +kernel) ?_)
      | (with_reducible refine Lex.fin_on (by kernel_rfl) ?_)
      | (go_at_call 80; refine hL.mono ?_; rintro e w1 ⟨⟨n, r, rfl⟩, hb1⟩))
    go_ret3
    exact ⟨rfl, hb1⟩
  · rw [h] at hL
    have hz := extract_size_le s k s.size
    by_cases h2 : (s.extract k s.size).size < n
    · rw [cutV_long h h2]
      simp only [lenR] at hL
      generalize s.extract k s.size = r at *
      go_enter Try.func70, Try.ntmps70
      go_wp2_with (first
        | (with_reducible refine Lex.wp_region_lex (by kernel_rfl) (by decide +kernel) ?_)
        | (with_reducible refine Lex.fin_on (by kernel_rfl) ?_)
        | (go_at_call 80; refine hL.mono ?_; rintro e w1 ⟨rfl, hb1⟩))
      go_ret3
      exact ⟨rfl, hb1⟩
    · rw [cutV_some h h2]
      simp only [lenR] at hL
      generalize s.extract k s.size = r at *
      go_enter Try.func70, Try.ntmps70
      go_wp2_with (first
        | (with_reducible refine Lex.wp_region_lex (by kernel_rfl) (by decide +kernel) ?_)
        | (with_reducible refine Lex.fin_on (by kernel_rfl) ?_)
        | (go_at_call 80; refine hL.mono ?_; rintro e w1 ⟨rfl, hb1⟩))
      go_ret3
      exact ⟨rfl, hb1.drew⟩
end Go.Proofs.Ytmflngpgmmgohaa
