/-
  Rows of marks.
-/
import Derived.Test.YteejlibiidiibaaC1
namespace Go.Proofs.Yteejlibiidiibaa
open Go.RowKit
set_option maxRecDepth 100000
/-- A block of n marks. -/
structure BT (w : World) (b n : Nat) (f : Nat → Bool) : Prop where
  ex : ∃ tc : Array Value, w.heap[b]? = some (.cells tc 4) ∧ ∀ m, m < n → tc[m]? = some (.bool (f m))
theorem BT.cell {w : World} {b n : Nat} {f : Nat → Bool} (h : BT w b n f) {m : Nat} (hm : m < n) : w.cell? ⟨b, m, none⟩ = some (.bool (f m)) := by
  obtain ⟨tc, h1, h2⟩ := h.ex
  simp [World.cell?, h1, h2 m hm]
theorem BT.at {w w' : World} {b n : Nat} {f : Nat → Bool} (h : BT w b n f) (e : w'.heap[b]? = w.heap[b]?) : BT w' b n f := by
  obtain ⟨tc, h1, h2⟩ := h.ex
  exact ⟨tc, e.trans h1, h2⟩
theorem BT.lt {w : World} {b n : Nat} {f : Nat → Bool} (h : BT w b n f) : b < w.heap.size := by
  obtain ⟨tc, h1, h2⟩ := h.ex
  exact heap_lt h1
theorem BT.below {w w' : World} {b n : Nat} {f : Nat → Bool} (h : BT w b n f) (hb : Below w.heap.size w w') : BT w' b n f := h.at (hb.block _ h.lt)
theorem BT.free {w : World} {b n : Nat} {f : Nat → Bool} (h : BT w b n f) (i : Nat) : w.frozen? ⟨b, i, none⟩ = false := by
  obtain ⟨tc, h1, h2⟩ := h.ex
  simp [World.frozen?, h1]
theorem BT.congr {w : World} {b n : Nat} {f g : Nat → Bool} (h : BT w b n f) (e : ∀ m, m < n → g m = f m) : BT w b n g := by
  obtain ⟨tc, h1, h2⟩ := h.ex
  exact ⟨tc, h1, fun m hm => by rw [e m hm]; exact h2 m hm⟩
theorem BT.set {w : World} {b n : Nat} {f : Nat → Bool} (h : BT w b n f) {k : Nat} (hk : k < n) (x : Bool) : BT (w.setCell ⟨b, k, none⟩ (.bool x)) b n (fun m => if m = k then x else f m) ∧ Upd b ((w.setCell ⟨b, k, none⟩ (.bool x)).heap[b]?.getD (.map #[] 0)) w (w.setCell ⟨b, k, none⟩ (.bool x)) := by
  obtain ⟨tc, h1, h2⟩ := h.ex
  have hU := Upd.set (i := k) (v := .bool x) (Upd.refl h1)
  refine ⟨⟨_, hU.blk, fun m hm => ?_⟩, by rw [hU.blk]; exact hU⟩
  have hl : k < tc.size := by
    have := h2 k hk
    exact (Array.getElem?_eq_some_iff.1 this).1
  rw [Array.getElem?_setIfInBounds]
  by_cases e : k = m
  · subst e; simp [hl]
  · rw [if_neg e, if_neg (fun e2 => e e2.symm)]; exact h2 m hm
end Go.Proofs.Yteejlibiidiibaa
