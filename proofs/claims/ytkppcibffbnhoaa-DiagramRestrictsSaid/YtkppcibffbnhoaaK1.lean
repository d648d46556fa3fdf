/-
  The reference's ways: what they answer, and the leaves.
-/
import Derived.Test.YtkppcibffbnhoaaG8
namespace Go.Proofs.Ytkppcibffbnhoaa
open Go.RowKit
set_option maxRecDepth 100000

/-- What ways answers. -/
def RW (ps : List IP) (w : World) (e : Ending) (w' : World) : Prop := ∃ VP v', e = .returned v' ∧ w'.ownsRow w.heap.size 46 2 v' VP.length (pcs VP) ∧ VI2 w' VP ps ∧ Below w.heap.size w w'
theorem RW.len {ps : List IP} {VP : List (Value × Value)} {w : World} (h : VI2 w VP ps) : VP.length = ps.length := h.len
theorem I3.own {w : World} {B : Nat} {v : Value} {n : Nat} {xs : List Int} (h : w.ownsRow B 3 1 v n (ic xs)) (hn : n = xs.length) : I3 w v xs := by
  subst hn
  obtain ⟨hl, h | ⟨g, cap, cur, rfl, hB, hb, hc, hm, hs, ht⟩⟩ := h
  · obtain ⟨rfl, h0⟩ := h
    have : xs = [] := List.length_eq_zero_iff.1 h0
    subst this
    exact I3.nil w
  · refine ⟨_, cap, rfl, hc, hl, fun hp => ⟨g, 0, cur, rfl, hb, fun j u hu => ?_⟩⟩
    rw [← ht] at hu
    rw [Nat.zero_add]
    rw [List.getElem?_take] at hu
    split at hu
    · simpa using hu
    · cases hu
theorem pcs_one {w : World} {VP : List (Value × Value)} {ps : List IP} (h : VI2 w VP ps) : ∀ u ∈ pcs VP, u.oneCell' = true := by
  intro u hu
  simp only [pcs, List.mem_flatMap, List.mem_cons, List.not_mem_nil, or_false] at hu
  obtain ⟨x, hx, hu⟩ := hu
  obtain ⟨i, hi, rfl⟩ := List.mem_iff_getElem.1 hx
  obtain ⟨⟨p1, c1, e1, -⟩, ⟨p2, c2, e2, -⟩⟩ := h.at' i hi (by rw [← h.len]; exact hi)
  rcases hu with rfl | rfl
  · rw [e1]; rfl
  · rw [e2]; rfl
theorem ways_false (D v1 v2 : Value) (x y : Value) (hD : D = .agg #[x, y]) (w : World) : Calls Try.prog 46 #[D, .int .i64 0, v1, v2] w (RW [] w) := by
  subst hD
  have hal : Below w.heap.size w (w.alloc (.cells #[x, y] 24)) := (Below.refl _ _).alloc (Nat.le_refl _) _
  go_enter Try.func46, Try.ntmps46
  go_wp2
  go_ret
  exact ⟨[], _, rfl, World.ownsRow_nil _ _ _ _, VI2.nil _, hal⟩
theorem ways_true (p1 p2 : Option Addr) (n1 n2 c1 c2 : Nat) (D : Value) (x y : Value) (hD : D = .agg #[x, y]) (pos neg : List Int) (w : World) (i1 : I3 w (.slice p1 n1 c1) pos) (i2 : I3 w (.slice p2 n2 c2) neg) :
    Calls Try.prog 46 #[D, .int .i64 1, .slice p1 n1 c1, .slice p2 n2 c2] w (RW [(pos, neg)] w) := by
  subst hD
  have hal : Below w.heap.size w (w.alloc (.cells #[x, y] 24)) := (Below.refl _ _).alloc (Nat.le_refl _) _
  have H1 := Lib.hid (i1.below hal); have H2 := Lib.hid (i2.below hal); have Hal := Lib.hid hal
  clear i1 i2 hal
  go_enter Try.func46, Try.ntmps46
  go_upto_region 1 with fail
  generalize w.alloc (.cells #[x, y] 24) = w1 at *
  have ha2 : Below w1.heap.size w1 (w1.alloc (.cells #[.slice p1 n1 c1, .slice p2 n2 c2] 46)) := (Below.refl _ _).alloc (Nat.le_refl _) _
  have hn2 := heap_alloc_new w1 (.cells #[.slice p1 n1 c1, .slice p2 n2 c2] 46)
  have H12 := Lib.hid (H1.out.below ha2); have H22 := Lib.hid (H2.out.below ha2); have Ha2 := Lib.hid (Hal.out.step ha2); have Hn2 := Lib.hid hn2
  clear ha2 hn2
  go_wp2
  go_ret
  exact ⟨[(_, _)], _, rfl, ⟨rfl, .inr ⟨_, 1, _, rfl, Hal.out.size, Hn2.out, Nat.le_refl _, by decide, rfl, rfl⟩⟩, VI2.one H12.out H22.out, Ha2.out⟩
end Go.Proofs.Ytkppcibffbnhoaa
