/-
  Slices of structs that came in: each element as its list of cells, each field as its part of that list.
-/
import Derived.Deep.Slices
import Derived.Deep.Fields
import Derived.ChangeSame
import Derived.ChangeShapes
import Derived.ProofKit
namespace Go.OpenFields
open Go Go.ChangeShapes Go.WideShapes Go.Deep
section
variable {H : Type} {enc : TypeId × Value → H} {P : Program} {w : World} {base : Nat} {spare : Nat → Bool} {held : Bool}

/-- The elements of a slice, by their cells. -/
theorem rows_of {t e : TypeId} {fuel : Nat} {cs : List Value} {x : DataW H × List MemPlace} (ht : P.underlying t = some (.slice e)) (h : DataW.trod enc P w base spare held fuel t cs = some x) :
    cs = [.slice none 0 0] ∨ ∃ (a : Addr) (len cap : Nat), cs = [.slice (some a) len cap] ∧ len ≤ cap ∧ cap ≤ maxLen ∧
      ∀ i, i < len → ∃ (es : List Value) (n : Nat) (y : DataW H × List MemPlace), es.length = P.cellsOf e ∧ (∀ j, j < P.cellsOf e → w.cell? (a.add (i * P.cellsOf e + j)) = es[j]?) ∧ DataW.trod enc P w base spare held n e es = some y := by
  rcases open_slice ht h with ⟨h0, _⟩ | ⟨a, len, cap, m, n, D, Pl, hcs, _, hl, hm, hmm, _, hi⟩
  · exact .inl h0
  refine .inr ⟨a, len, cap, hcs, hl, hm, fun i hil => ?_⟩
  have him : i < m := by rw [hmm]; split <;> omega
  obtain ⟨es, hes, hr⟩ := hi i him
  obtain ⟨_, hlen, hat⟩ := World.cells?_some hes
  refine ⟨es, n, _, hlen, fun j hj => ?_, hr⟩
  rw [← add_add]
  exact hat j hj

/-- A field of a struct, by its cells. -/
theorem field_of {e : TypeId} {fs : Array Field} {n : Nat} {es : List Value} {y : DataW H × List MemPlace} (he : P.underlying e = some (.struct fs)) (h : DataW.trod enc P w base spare held n e es = some y)
    (j T o c : Nat) (hj : (fs[j]?).map (fun f => (f.type, f.offset)) = some (T, o)) (hc : P.cellsOf T = c) : ∃ (k : Nat) (z : DataW H × List MemPlace), DataW.trod enc P w base spare held k T ((es.drop o).take c) = some z := by
  obtain ⟨ys, k, _, _, _, hyl, hf⟩ := DataW.trod_struct he h
  cases hx : fs[j]? with
  | none => simp [hx] at hj
  | some f =>
    simp [hx] at hj
    obtain ⟨rfl, rfl⟩ := hj
    have hlt : j < ys.length := by rw [hyl]; exact (Array.getElem?_eq_some_iff.1 hx).1
    exact ⟨k, ys[j], hc ▸ (hf j f hx).trans (List.getElem?_eq_getElem hlt)⟩

theorem int_of {t : TypeId} {k : IntKind} {n : Nat} {cs : List Value} {y : DataW H × List MemPlace} (ht : P.underlying t = some (.int k)) (h : DataW.trod enc P w base spare held n t cs = some y) :
    ∃ q : Int, cs = [.int k q] ∧ (Lit.int k q).wf = true := by
  obtain ⟨q, h1, _, h2⟩ := DataW.trod_int ht h
  exact ⟨q, h1, h2⟩
theorem string_of {t : TypeId} {n : Nat} {cs : List Value} {y : DataW H × List MemPlace} (ht : P.underlying t = some .string) (h : DataW.trod enc P w base spare held n t cs = some y) :
    ∃ s : ByteArray, cs = [.string s] ∧ s.size ≤ maxLen := by
  obtain ⟨s, h1, _, h2⟩ := DataW.trod_string ht h
  exact ⟨s, h1, h2⟩
theorem take1 {es : List Value} {j : Nat} {v : Value} (h : (es.drop j).take 1 = [v]) : es[j]? = some v := by
  cases hd : es.drop j with
  | nil => rw [hd] at h; simp at h
  | cons x r =>
    rw [hd] at h
    simp at h
    subst h
    have : (es.drop j)[0]? = some x := by rw [hd]; rfl
    simpa using this
end
theorem add_none (b o i : Nat) : (⟨b, o, none⟩ : Addr).add i = ⟨b, o + i, none⟩ := by
  unfold Addr.add
  split
  · rename_i h; subst h; rfl
  · rfl
theorem lt_of_cell {w : World} {b o : Nat} {v : Value} (h : w.cell? ⟨b, o, none⟩ = some v) : b < w.heap.size := by
  rcases Nat.lt_or_ge b w.heap.size with h' | h'
  · exact h'
  · simp [World.cell?, Array.getElem?_eq_none h'] at h
end Go.OpenFields
