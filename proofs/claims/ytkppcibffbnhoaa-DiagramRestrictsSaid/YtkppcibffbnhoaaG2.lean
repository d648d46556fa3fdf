/-
  Walks: Clone and Clip of slices of integers.
-/
import Derived.Test.YtkppcibffbnhoaaG1
namespace Go.Proofs.Ytkppcibffbnhoaa
open Go.RowKit
set_option maxRecDepth 100000

set_option maxHeartbeats 4000000 in
theorem clip_any (p : Option Addr) (n c : Nat) (h : n ≤ c) (w : World) : Calls Try.prog 45 #[.slice p n c] w fun e w' => e = .returned (.slice p n n) ∧ w = w' := by
  go_enter Try.func45, Try.ntmps45
  go_wp2
  go_ret
  exact ⟨rfl, rfl⟩
theorem eql_nil (p : Option Addr) (l c : Nat) (w : World) : (binOp .eql 44 (.slice p l c) (.slice none 0 0)).run Try.prog w = .ok (.bool p.isNone) w := by
  cases p <;> simp [binOp, Op.equal, Op.equalIn, run_underlying (show Try.prog.underlying 44 = some (.slice 3) by kernel_rfl)] <;> rfl
/-- What a copy answers. -/
def CR (xs : List Int) (w : World) (e : Ending) (w' : World) : Prop := ∃ v', e = .returned v' ∧ I3 w' v' xs ∧ Below w.heap.size w w'
set_option maxHeartbeats 4000000 in
theorem clone_any (v : Value) (xs : List Int) (w : World) (h : IS w v xs) (hl : xs.length ≤ 1000000) : Calls Try.prog 44 #[v] w (CR xs w) := by
  obtain ⟨p, c, rfl, hc, hr⟩ := h
  cases p with
  | none =>
    have hx : xs = [] := by
      rcases Nat.eq_zero_or_pos xs.length with h0 | h0
      · exact List.length_eq_zero_iff.1 h0
      · obtain ⟨a, o, e1, _⟩ := hr.2 h0; cases e1
    subst hx
    have he := eql_nil none 0 c
    rw [show (none : Option Addr).isNone = true from rfl] at he
    go_enter Try.func44, Try.ntmps44
    go_wp2
    go_ret
    exact ⟨_, rfl, I3.nil _, Below.refl _ _⟩
  | some ad =>
    have hal := (Below.refl w.heap.size w).alloc (Nat.le_refl _) (.cells #[] 3)
    have Hr := Lib.hid (hr.below hal)
    have Hal := Lib.hid hal
    clear hr hal
    have he := eql_nil (some ad) xs.length c
    rw [show (some ad).isNone = false from rfl] at he
    have hl0 : (0 : Nat) + xs.length ≤ 67108864 := by omega
    go_enter Try.func44, Try.ntmps44
    go_wp2_with (first
      | (at_builtin; go_loud (refine wpList_append_rc rfl (.tmp 5) (.tmp 6) 44 rfl 3 (by kernel_rfl) int_info (by decide) _ (some ⟨w.heap.size, 0, none⟩) (some ad) 0 xs.length 0 c [] (ic xs) rfl rfl (RC.nil _ _ _) Hr.out (ic_one xs) (Nat.le_refl _) (by omega) hl0 ?_; intro A' c' w' h1 h2 h3 h4; have H2 := Lib.hid (h2 (RT.nil _ _ _ _)); have H4 := Lib.hid h4; clear h1 h2 h4)))
    go_ret
    exact ⟨_, rfl, ⟨A', c', rfl, by omega, by have := H2.out; rw [Nat.zero_add, List.nil_append] at this; exact this⟩, Hal.out.step H4.out⟩
end Go.Proofs.Ytkppcibffbnhoaa
