/-
  Maps of names; slices of strings.
-/
import Derived.Test.YtejiagmfinhjbaaNe
import Derived.Maps.OwnSet
import Derived.Maps.Views
import Derived.Deep.LoopGhost
namespace Go.Proofs.Ytejiagmfinhjbaa
open Go.RowKit Go.Ident Go.Maps

theorem zero4 (w : World) : (zeroValue 4).run Try.prog w = .ok (.bool false) w := by kernel_rfl
theorem key9 {k : ByteArray} (h : k.size ≤ maxLen) : keyOf Try.prog 9 (.string k) = some (.string k.data.toList) := Go.WideMaps.keyOf_string_mk (by kernel_rfl) h
theorem keyed9 : Maps.Keyed Try.prog 9 := Maps.string_keyed (by kernel_rfl)
theorem elem4 (x : Bool) : plainElem (H := Unit) Try.prog 4 (.bool x) = some (.lit (.bool x), []) := plainElem_bool (by kernel_rfl) x
theorem elem4_inv {v : Value} {z : DataW Unit × List MemPlace} (h : plainElem (H := Unit) Try.prog 4 v = some z) : ∃ x, v = .bool x ∧ z.1 = .lit (.bool x) := by
  unfold plainElem at h
  rw [show Try.prog.underlying 4 = some .bool by kernel_rfl] at h
  cases v <;> simp at h
  exact ⟨_, rfl, by rw [← h]⟩
/-- Block b is a map of at most n names, and the names of l are those that are true in it. -/
def TM (w : World) (b n : Nat) (l : List (List UInt8)) : Prop :=
  ∃ D : DataW Unit, w.ownsMap Try.prog 9 (plainElem Try.prog 4) b n D ∧ ∀ k : List UInt8, D.atKey (.string k) (.lit (.bool false)) = .lit (.bool (decide (k ∈ l)))
theorem TM.start (w : World) : TM (w.alloc (.map #[] 0)) w.heap.size 0 [] := ⟨_, World.ownsMap_made _ _ _ _, fun k => by simp; rfl⟩
theorem TM.step {w w1 : World} {b n : Nat} {l : List (List UInt8)} {s : List UInt8} {D : DataW Unit} (ho : w.ownsMap Try.prog 9 (plainElem Try.prog 4) b n D) (hD : ∀ k : List UInt8, D.atKey (.string k) (.lit (.bool false)) = .lit (.bool (decide (k ∈ l))))
    (h : w1.ownsMap Try.prog 9 (plainElem Try.prog 4) b (n + 1) (D.put (.string s) (.lit (.bool true)))) : TM w1 b (n + 1) (l ++ [s]) := by
  refine ⟨_, h, fun k => ?_⟩
  by_cases hk : k = s
  · subst hk
    rw [atKey_put_same (k := .string k) ho.isMap trivial]
    simp
  · rw [atKey_put_other (by simpa using hk), hD]
    simp [hk]
theorem TM.look {w : World} {b n : Nat} {l : List (List UInt8)} (h : TM w b n l) {s : ByteArray} (hs : s.size ≤ maxLen) : (Instr.lookup 59 (.map (some b)) (.string s) false).run Try.prog w = .ok (.bool (decide (s.data.toList ∈ l))) w := by
  obtain ⟨D, ho, hD⟩ := h
  obtain ⟨v, ps, hrun, hv⟩ := World.ownsMap.lookup (t := 59) (e := 4) ho keyed9 (by kernel_rfl) (zero4 w) (elem4 false) (key9 hs)
  rw [hD] at hv
  obtain ⟨x, rfl, hx⟩ := elem4_inv hv
  simp only [DataW.lit.injEq, Lit.bool.injEq] at hx
  rw [hrun, hx]
theorem TM.at {w w' : World} {b n : Nat} {l : List (List UInt8)} (h : TM w b n l) (hb : w'.heap[b]? = w.heap[b]?) : TM w' b n l := by
  obtain ⟨D, ⟨es, clock, h1, h2⟩, hD⟩ := h
  exact ⟨D, ⟨es, clock, hb.trans h1, h2⟩, hD⟩
theorem TM.lt {w : World} {b n : Nat} {l : List (List UInt8)} (h : TM w b n l) : b < w.heap.size := by obtain ⟨D, ho, _⟩ := h; exact ho.lt

/-- A slice of strings that came in. -/
structure Strs (w : World) (p : Option Addr) (ss : List ByteArray) : Prop where
  cell : ∀ i (h : i < ss.length), ∃ a o, p = some ⟨a, o, none⟩ ∧ a < w.heap.size ∧ w.cell? ⟨a, o + i, none⟩ = some (.string ss[i])
  size : ∀ i (h : i < ss.length), ss[i].size ≤ maxLen
def bys (ss : List ByteArray) : List (List UInt8) := ss.map fun s => s.data.toList

/-- What the second loop has. -/
structure FI (w : World) (base mb m kind : Nat) (L : List (List UInt8)) (n g : Nat) (wr : World) : Prop where
  bs : BS base g (seqK kind n) wr
  tm : TM wr mb m L
  below : Below base w wr
theorem FI.conv {w wr : World} {base mb m kind n g : Nat} {L : List (List UInt8)} (h : FI w base mb m kind L n g wr) :
    (convert 60 9 (.slice (some ⟨g, 0, none⟩) (seqK kind n).length (seqK kind n).length)).run Try.prog wr = .ok (.string ⟨(seqK kind n).toArray⟩) wr := h.bs.conv
theorem FI.look {w wr : World} {base mb m kind n g : Nat} {L : List (List UInt8)} (h : FI w base mb m kind L n g wr) (hk : kind ≤ 1) (hn : n ≤ 61) :
    (Instr.lookup 59 (.map (some mb)) (.string ⟨(seqK kind n).toArray⟩) false).run Try.prog wr = .ok (.bool (decide (seqK kind n ∈ L))) wr := by
  have := seqK_len hk hn
  exact h.tm.look (s := ⟨(seqK kind n).toArray⟩) (by show (seqK kind n).toArray.size ≤ _; unfold maxLen; simp; omega)

end Go.Proofs.Ytejiagmfinhjbaa
