/-
  Pairs and nodes as keys; rows of nodes; diagrams as values.
-/
import Derived.Test.YtkppcibffbnhoaaA0
import Derived.Test.YtkppcibffbnhoaaB1
namespace Go.Proofs.Ytkppcibffbnhoaa
open Go.RowKit

set_option maxRecDepth 100000
theorem size_succ : ∃ m, Try.prog.types.size = m + 1 := ⟨_, (Nat.succ_pred_eq_of_pos (Nat.lt_of_le_of_lt (Nat.zero_le _) row32)).symm⟩
theorem cells3 : Try.prog.cellsOf 3 = 1 := by kernel_rfl
theorem cells32 : Try.prog.cellsOf 32 = 3 := by kernel_rfl
theorem cells83 : Try.prog.cellsOf 83 = 2 := by kernel_rfl
theorem key3 (a : Nat × Nat × Nat) (h : good3 a) : keyOf Try.prog 32 (val3 a) = some (lit3 a) := by
  obtain ⟨x, y, z⟩ := a
  obtain ⟨h1, h2, h3⟩ := h
  obtain ⟨m, hm⟩ := size_succ
  have e1 := wf_nat h1
  have e2 := wf_nat h2
  have e3 := wf_nat h3
  dsimp only at e1 e2 e3
  have hk : Try.prog.keyLits (Try.prog.types.size + 1) 32 [.int .i64 (x : Int), .int .i64 (y : Int), .int .i64 (z : Int)] = some [.int .i64 (x : Int), .int .i64 (y : Int), .int .i64 (z : Int)] := by
    rw [hm]
    simp [Program.keyLits, Try.underlying32, cells32, cells3, e1, e2, e3]
  have ht : Try.prog.keyType 32 = true := by kernel_rfl
  have hf : (val3 (x, y, z)).formed Try.prog 32 = true := by simp [Value.formed, val3, Try.underlying32, cells32]
  have hc : (val3 (x, y, z)).cells.toList = [.int .i64 (x : Int), .int .i64 (y : Int), .int .i64 (z : Int)] := rfl
  unfold keyOf
  simp only [Try.underlying32, ht, hf, hc, hk, Bool.and_self, if_true, Option.map_some, lit3]
theorem key2 (a : Nat × Nat) (h : good2 a) : keyOf Try.prog 83 (val2 a) = some (lit2 a) := by
  obtain ⟨x, y⟩ := a
  obtain ⟨h1, h2⟩ := h
  obtain ⟨m, hm⟩ := size_succ
  have e1 := wf_nat h1
  have e2 := wf_nat h2
  dsimp only at e1 e2
  have hk : Try.prog.keyLits (Try.prog.types.size + 1) 83 [.int .i64 (x : Int), .int .i64 (y : Int)] = some [.int .i64 (x : Int), .int .i64 (y : Int)] := by
    rw [hm]
    simp [Program.keyLits, Try.underlying83, cells83, cells3, e1, e2, List.range, List.range.loop]
  have ht : Try.prog.keyType 83 = true := by kernel_rfl
  have hf : (val2 (x, y)).formed Try.prog 83 = true := by simp [Value.formed, val2, Try.underlying83, cells83]
  have hc : (val2 (x, y)).cells.toList = [.int .i64 (x : Int), .int .i64 (y : Int)] := rfl
  unfold keyOf
  simp only [Try.underlying83, ht, hf, hc, hk, Bool.and_self, if_true, Option.map_some, lit2]
theorem code3 : Code 32 val3 lit3 good3 :=
  ⟨Maps.Keyed.of_law law32, key3, fun a b ha hb h => by
    have := law32.inj (key3 a ha) (h ▸ key3 b hb)
    unfold val3 at this
    obtain ⟨x, y, z⟩ := a
    obtain ⟨x', y', z'⟩ := b
    simp only [Value.agg.injEq, Array.mk.injEq, List.cons.injEq, Value.int.injEq, true_and, and_true] at this
    obtain ⟨h1, h2, h3⟩ := this
    rw [show x = x' by omega, show y = y' by omega, show z = z' by omega], fun _ => trivial⟩
theorem code2 : Code 83 val2 lit2 good2 :=
  ⟨Maps.Keyed.of_law law83, key2, fun a b ha hb h => by
    have := law83.inj (key2 a ha) (h ▸ key2 b hb)
    unfold val2 at this
    obtain ⟨x, y⟩ := a
    obtain ⟨x', y'⟩ := b
    simp only [Value.agg.injEq, Array.mk.injEq, List.cons.injEq, Value.int.injEq, true_and, and_true] at this
    obtain ⟨h1, h2⟩ := this
    rw [show x = x' by omega, show y = y' by omega], fun _ => trivial⟩

/-! ### Rows of nodes -/
abbrev Tri := Nat × Nat × Nat
def triC (x : Tri) : List Value := [.int .i64 x.1, .int .i64 x.2.1, .int .i64 x.2.2]
def triCells (N : List Tri) : List Value := N.flatMap triC
theorem triCells_snoc (N : List Tri) (x : Tri) : triCells (N ++ [x]) = triCells N ++ triC x := by simp [triCells]
theorem triCells_len (N : List Tri) : (triCells N).length = N.length * 3 := by
  induction N with
  | nil => rfl
  | cons x N ih => simp only [triCells, List.flatMap_cons, List.length_append] at *; rw [ih]; simp [triC]; omega
theorem triCells_get (N : List Tri) (k : Nat) (h : k < N.length) : (triCells N)[3 * k]? = some (.int .i64 (N[k]).1) ∧ (triCells N)[3 * k + 1]? = some (.int .i64 (N[k]).2.1) ∧ (triCells N)[3 * k + 2]? = some (.int .i64 (N[k]).2.2) := by
  induction N generalizing k with
  | nil => simp at h
  | cons x N ih =>
    have e : triCells (x :: N) = triC x ++ triCells N := by simp [triCells]
    have hl : (triC x).length = 3 := rfl
    rw [e]
    cases k with
    | zero => exact ⟨rfl, rfl, rfl⟩
    | succ k =>
      have := ih k (by simpa using h)
      rw [List.getElem?_append_right (by omega), List.getElem?_append_right (by omega), List.getElem?_append_right (by omega)]
      rw [hl, show 3 * (k + 1) - 3 = 3 * k by omega, show 3 * (k + 1) + 1 - 3 = 3 * k + 1 by omega, show 3 * (k + 1) + 2 - 3 = 3 * k + 2 by omega]
      exact this
theorem tri_info : (Try.prog.info? 32).map (fun i => (i.zero, i.size, i.bytes)) = some (some (.agg #[.int .i64 0, .int .i64 0, .int .i64 0]), 3, 24) := by kernel_rfl
abbrev World.ownsTri (w : World) (B : Nat) (v : Value) (N : List Tri) : Prop := w.ownsRow B 32 3 v N.length (triCells N)
theorem ownsTri_cells {w : World} {B g cap : Nat} {N : List Tri} (h : w.ownsRow B 32 3 (.slice (some ⟨g, 0, none⟩) N.length cap) N.length (triCells N)) {k : Nat} (hk : k < N.length) :
    w.cell? ⟨g, k * 3, none⟩ = some (.int .i64 (N[k]).1) ∧ w.cell? ⟨g, k * 3 + 1, none⟩ = some (.int .i64 (N[k]).2.1) ∧ w.cell? ⟨g, k * 3 + 2, none⟩ = some (.int .i64 (N[k]).2.2) := by
  obtain ⟨h1, h2, h3⟩ := triCells_get N k hk
  have hc := h.cells (g := g) rfl
  have hadd : ∀ j, (⟨g, 0, none⟩ : Addr).add j = ⟨g, j, none⟩ := fun j => by
    unfold Addr.add; split
    · rename_i e; subst e; rfl
    · simp
  have e1 := hc _ _ h1
  have e2 := hc _ _ h2
  have e3 := hc _ _ h3
  rw [hadd] at e1 e2 e3
  rw [show k * 3 = 3 * k by omega]
  exact ⟨e1, e2, e3⟩
/-- A row of nodes that somebody may read: pointer p, nodes N. -/
def NS (w : World) (p : Option Addr) (N : List Tri) : Prop :=
  ∀ k (h : k < N.length), ∃ a o, p = some ⟨a, o, none⟩ ∧ a < w.heap.size ∧ w.cell? ⟨a, o + k * 3, none⟩ = some (.int .i64 (N[k]).1) ∧ w.cell? ⟨a, o + k * 3 + 1, none⟩ = some (.int .i64 (N[k]).2.1) ∧ w.cell? ⟨a, o + k * 3 + 2, none⟩ = some (.int .i64 (N[k]).2.2)
theorem NS.below {w w' : World} {p : Option Addr} {N : List Tri} (h : NS w p N) (hb : Below w.heap.size w w') : NS w' p N := fun k hk => by
  obtain ⟨a, o, h1, h2, h3, h4, h5⟩ := h k hk
  exact ⟨a, o, h1, Nat.lt_of_lt_of_le h2 hb.size, (hb.cell (p := ⟨a, _, none⟩) h2).trans h3, (hb.cell (p := ⟨a, _, none⟩) h2).trans h4, (hb.cell (p := ⟨a, _, none⟩) h2).trans h5⟩
theorem NS.of_own {w : World} {B cap : Nat} {p : Option Addr} {N : List Tri} (h : w.ownsRow B 32 3 (.slice p N.length cap) N.length (triCells N)) : NS w p N := fun k hk => by
  obtain ⟨g, rfl⟩ := own_ptr h (by omega)
  obtain ⟨h1, h2, h3⟩ := ownsTri_cells h hk
  exact ⟨g, 0, rfl, (h.lt g rfl).2, by rw [Nat.zero_add]; exact h1, by rw [Nat.zero_add]; exact h2, by rw [Nat.zero_add]; exact h3⟩
/-- The value of a diagram, in its parts. -/
structure DD (w : World) (v : Value) (N : List Tri) (r : Nat) : Prop where
  ex : ∃ p cap, v = .agg #[.slice p N.length cap, .int .i64 r] ∧ NS w p N
theorem DD.below {w w' : World} {v : Value} {N : List Tri} {r : Nat} (h : DD w v N r) (hb : Below w.heap.size w w') : DD w' v N r := by
  obtain ⟨p, cap, rfl, h1⟩ := h.ex
  exact ⟨p, cap, rfl, h1.below hb⟩
/-- The value of the diagram of a tree. -/
structure DV (w : World) (v : Value) (t : T) : Prop where
  ok : t.Ok
  dd : DD w v (canonN t) (canonR t)
theorem DV.below {w w' : World} {v : Value} {t : T} (h : DV w v t) (hb : Below w.heap.size w w') : DV w' v t := ⟨h.ok, h.dd.below hb⟩
end Go.Proofs.Ytkppcibffbnhoaa
