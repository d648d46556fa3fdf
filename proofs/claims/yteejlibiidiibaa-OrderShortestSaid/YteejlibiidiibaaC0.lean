/-
  Graphs in the heap; walks: node, same, In.
-/
import Derived.Test.YteejlibiidiibaaB1
import Derived.Test.YteejlibiidiibaaLexK
import Derived.Test.YteejlibiidiibaaA0
namespace Go.Proofs.Yteejlibiidiibaa
open Go.RowKit
set_option maxRecDepth 100000

/-- A graph by its cells. -/
structure GS (w : World) (p : Option Addr) (n : Nat) (E : Gr) : Prop where
  len : n = E.length
  at' : ∀ k (h : k < E.length), ∃ a o v, p = some ⟨a, o, none⟩ ∧ a < w.heap.size ∧ w.cell? ⟨a, o + k, none⟩ = some v ∧ IS w v E[k]
theorem GS.below {w w' : World} {p : Option Addr} {n : Nat} {E : Gr} (h : GS w p n E) (hb : Below w.heap.size w w') : GS w' p n E :=
  ⟨h.len, fun k hk => by
    obtain ⟨a, o, v, h1, h2, h3, h4⟩ := h.at' k hk
    exact ⟨a, o, v, h1, Nat.lt_of_lt_of_le h2 hb.size, (hb.cell (p := ⟨a, _, none⟩) h2).trans h3, h4.below hb⟩⟩
def nodeB (n : Nat) (x : Int) : Bool := decide (0 ≤ x) && decide (x < (n : Int))
theorem node_any (p : Option Addr) (n c : Nat) (x : Int) (w : World) : Calls Try.prog 23 #[.slice p n c, .int .i64 x] w fun e w' => e = .returned (.bool (nodeB n x)) ∧ w = w' := by
  by_cases h : 0 ≤ x
  · have h1 : decide (0 ≤ x) = true := by simp [h]
    go_enter Try.func23, Try.ntmps23
    go_wp2
    go_ret
    exact ⟨by simp [nodeB, h], rfl⟩
  · have h1 : decide (0 ≤ x) = false := by simp [h]
    go_enter Try.func23, Try.ntmps23
    go_wp2
    go_ret
    exact ⟨by simp [nodeB, h1], rfl⟩
set_option maxHeartbeats 4000000 in
theorem in_any (v : Value) (xs : List Int) (x : Int) (w : World) (h : IS w v xs) (hl : xs.length ≤ 1000000) : Calls Try.prog 21 #[v, .int .i64 x] w fun e w' => e = .returned (.bool (decide (x ∈ xs))) ∧ Below w.heap.size w w' := by
  obtain ⟨p, c, rfl, hc, hr⟩ := h
  have R := Lib.hid hr; clear hr
  go_enter Try.func21, Try.ntmps21
  go_wp2
  go_loop [9] (fun i => ∃ k : Nat, i = .int .i64 k ∧ k ≤ xs.length ∧ x ∉ xs.take k) (fun i => xs.length - (intOf i).toNat)
  case atStart => exact ⟨0, rfl, by omega, by simp⟩
  case round =>
    obtain ⟨k, rfl, hk, hall⟩ := hrel
    have Hall := Lib.hid hall; clear hall
    by_cases hlt : k < xs.length
    · obtain ⟨ab, off, rfl, hab, hz⟩ := R.out.2 (by omega)
      have z0 := hz k (.int .i64 xs[k]) (by simp [ic, hlt])
      clear hz
      by_cases he : xs[k] = x
      · have hm : decide (x ∈ xs) = true := decide_eq_true (he ▸ List.getElem_mem hlt)
        have f1 : (xs[k] == x) = true := by simp [he]
        have Hm := Lib.hid hm; clear hm
        generalize xs[k] = y at *
        clear he
        go_wp2
        go_ret
        rw [Hm.out]
        exact ⟨rfl, Below.refl _ _⟩
      · have f1 : (xs[k] == x) = false := by simp [he]
        have hn : x ∉ xs.take (k + 1) := by
          rw [List.take_succ_eq_append_getElem hlt, List.mem_append, List.mem_singleton]
          exact fun h => h.elim Hall.out (fun e => he e.symm)
        have Hn := Lib.hid hn; clear hn
        generalize xs[k] = y at *
        clear he
        go_wp2
        exact ⟨⟨k + 1, by go_num, by omega, Hn.out⟩, by simp [intOf]; omega⟩
    · obtain rfl : k = xs.length := by omega
      have hm : decide (x ∈ xs) = false := decide_eq_false (by have := Hall.out; rwa [List.take_length] at this)
      have Hm := Lib.hid hm; clear hm
      go_wp2
      go_ret
      rw [Hm.out]
      exact ⟨rfl, Below.refl _ _⟩
end Go.Proofs.Yteejlibiidiibaa
