/-
  Walks: same.
-/
import Derived.Test.YteejlibiidiibaaC0
namespace Go.Proofs.Yteejlibiidiibaa
open Go.RowKit
set_option maxRecDepth 100000
/-- What a question answers. -/
def ER (b : Bool) (w : World) (e : Ending) (w' : World) : Prop := e = .returned (.bool b) ∧ Below w.heap.size w w'
set_option maxHeartbeats 4000000 in
theorem same_any (v1 v2 : Value) (xs : List Int) (w : World) (h1 : IS w v1 xs) (h2 : IS w v2 xs) (hl : xs.length ≤ 1000000) : Calls Try.prog 14 #[v1, v2] w (ER true w) := by
  obtain ⟨p1, c1, rfl, hc1, hr1⟩ := h1
  obtain ⟨p2, c2, rfl, hc2, hr2⟩ := h2
  have R1 := Lib.hid hr1; have R2 := Lib.hid hr2
  have f1 : ((xs.length : Int) != (xs.length : Int)) = false := by simp
  clear hr1 hr2
  go_enter Try.func14, Try.ntmps14
  go_wp2
  go_loopw [13] (fun i wr => ∃ k : Nat, i = .int .i64 k ∧ k ≤ xs.length ∧ Below w.heap.size w wr) (fun i _ => xs.length - (intOf i).toNat)
  case atStart => exact ⟨0, rfl, by omega, Below.refl _ _⟩
  case round =>
    obtain ⟨k, rfl, hk, hb⟩ := hrel
    have Hb := Lib.hid hb; clear hb
    by_cases hlt : k < xs.length
    · obtain ⟨a1, o1, rfl, ha1, hz1⟩ := (R1.out.below Hb.out).2 (by omega)
      obtain ⟨a2, o2, rfl, ha2, hz2⟩ := (R2.out.below Hb.out).2 (by omega)
      have z1 := hz1 k (.int .i64 xs[k]) (by simp [ic, hlt])
      have z2 := hz2 k (.int .i64 xs[k]) (by simp [ic, hlt])
      generalize xs[k] = x at *
      have f2 : (x != x) = false := by simp
      clear hz1 hz2
      go_wp2_with (first
        | ((with_reducible refine Lex.at_region ?_); with_reducible refine Lex.wp_region_lex (by kernel_rfl) (by decide +kernel) ?_)
        | ((with_reducible refine Lex.at_fin ?_); with_reducible refine Lex.fin_on (by kernel_rfl) ?_))
      exact ⟨⟨k + 1, by go_num, by omega, Hb.out.drew⟩, by simp [intOf]; omega⟩
    · obtain rfl : k = xs.length := by omega
      go_wp2
      go_ret
      exact ⟨rfl, Hb.out⟩
end Go.Proofs.Yteejlibiidiibaa
