/-
  Laws of blocks.
-/
import Derived.Test.YtejiagmfinhjbaaNc
import Derived.Laws.Rows
import Derived.Laws.Tables
import Derived.Deep.DeepCutAuto
import Derived.Lib.BufSteps
import Derived.Lib.Buffer
namespace Go.Proofs.Ytejiagmfinhjbaa
open Go.RowKit Go.Ident

theorem below_drewN {B : Nat} {a w : World} (h : Below B a w) (n : Nat) : Below B a (w.drewN n) := ⟨h.os, h.tape, h.output, h.size, h.block⟩
theorem cells_one (l : List UInt8) : ∀ v ∈ Lib.byteCells l, v.oneCell' = true := by
  intro v hv
  obtain ⟨c, _, rfl⟩ := List.mem_map.1 hv
  rfl
section
variable {b : ByteArray} {k : Nat} {bs : List UInt8}
theorem llt (h : k < b.size) : k < b.data.toList.length := by show k < b.data.toList.length; simpa using h
theorem lle (h : b.size ≤ k) : b.data.toList.length ≤ k := by show b.data.toList.length ≤ k; simpa using h
theorem ne_of_nat {a : UInt8} {n : Nat} (hn : n < 256) (h : a.toNat ≠ n) : a ≠ UInt8.ofNat n := by rintro rfl; exact h (by simp; omega)
theorem eq_of_nat {a : UInt8} {n : Nat} (hn : n < 256) (h : a.toNat = n) : a = UInt8.ofNat n := UInt8.toNat_inj.1 (by rw [h]; simp; omega)
end
theorem list_eq (s : ByteArray) : s.data.toList = s.toList := (ByteArray.toList_eq s).symm
theorem ownsRow_below {B : Nat} {w w1 : World} {b : Nat} {e : TypeId} {size n : Nat} {v : Value} {xs : List Value} (h : w.ownsRow b e size v n xs) (hB : Below B w w1) (hw : w.heap.size ≤ B) : w1.ownsRow b e size v n xs := by
  refine ⟨h.1, ?_⟩
  rcases h.2 with h2 | ⟨g, cap, cur, rfl, h4, h5, h6⟩
  · exact .inl h2
  · refine .inr ⟨g, cap, cur, rfl, h4, ?_, h6⟩
    have hlt := Lib.lt_of_heap h5
    rw [hB.block g (by omega)]; exact h5
theorem box_cells {w w1 : World} {k : Int} {s : ByteArray} (hb : Below (w.alloc (.cells #[.int .i64 k, .string s] 36)).heap.size (w.alloc (.cells #[.int .i64 k, .string s] 36)) w1) :
    w1.cell? ⟨w.heap.size, 0, none⟩ = some (.int .i64 k) ∧ w1.cell? ⟨w.heap.size, 1, none⟩ = some (.string s) := by
  have hg : w1.heap[w.heap.size]? = some (.cells #[.int .i64 k, .string s] 36) := (hb.block _ (by simp)).trans (heap_alloc_new _ _)
  exact ⟨cell_of_row _ _ _ _ _ _ hg, cell_of_row _ _ _ _ _ _ hg⟩
theorem results_cell_one {P : Program} {fn : Func} {p u : Tmp} {ty : TypeId} (h : fn.results = #[.cell p ty, .tmp u]) (tmps : Array Value) (w : World) (g : Nat) (t : TypeId) (cs : Array Value) (fr : Nat × Nat) (d : TypeDesc)
    (hp : tmps.getD p undef = .pointer (some ⟨g, 0, none⟩)) (hg : w.heap[g]? = some (.cells cs t fr))
    (hu : P.underlying ty = some d) (hd : (match d with | .struct _ | .array _ _ => true | _ => false) = true) (hi : (P.info? ty).map (·.size) = some cs.size) :
    (results fn tmps).run P w = .ok (.tuple #[.agg cs, tmps.getD u undef]) w := by
  have hp' : tmps[p]?.getD undef = .pointer (some ⟨g, 0, none⟩) := by simpa using hp
  simp [results, h, hp', asAddr, run_loadVar_row w g t ty cs fr d hg hu hd hi]
theorem at_store {P : Program} {ops : Array Oper} {rest : List Oper} {d : Option Tmp} {ty ty2 : TypeId} {x y : Operand} {pos : String} {after : Array Edge} {g : Option (Nat × Bool)} {a : Act} {w : World} {Q : Exit → Act → World → Prop}
    (h : wpList P ops Q ({ dst := d, op := .store ty x y, type := ty2, pos := pos, after := after, guard := g } :: rest) a w) : wpList P ops Q ({ dst := d, op := .store ty x y, type := ty2, pos := pos, after := after, guard := g } :: rest) a w := h
theorem at_load23 {P : Program} {ops : Array Oper} {rest : List Oper} {d : Option Tmp} {ty2 : TypeId} {x : Operand} {pos : String} {after : Array Edge} {g : Option (Nat × Bool)} {a : Act} {w : World} {Q : Exit → Act → World → Prop}
    (h : wpList P ops Q ({ dst := d, op := .load 36 x, type := ty2, pos := pos, after := after, guard := g } :: rest) a w) : wpList P ops Q ({ dst := d, op := .load 36 x, type := ty2, pos := pos, after := after, guard := g } :: rest) a w := h
theorem below_setRow {B b : Nat} {w w' : World} (h : Below B w w') (hb : B ≤ b) (cs : Array Value) : Below B w (w'.setRow b cs) :=
  ⟨h.os, h.tape, h.output, by rw [size_setRow]; exact h.size, fun i hi => by rw [setRow_other _ _ _ _ (by omega)]; exact h.block i hi⟩
theorem list_size (s : ByteArray) : s.data.toList.length = s.size := by show _ = s.data.size; simp

theorem below_trans {w a b : World} (h : Below w.heap.size w a) (k : Below a.heap.size a b) : Below w.heap.size w b := h.trans (k.mono h.size)
theorem below_alloc {w a : World} (h : Below w.heap.size w a) (o : Obj) : Below w.heap.size w (a.alloc o) := h.alloc h.size o

/-- A block that holds a key. -/
def Blk (b : Nat) (k : Int) (t : ByteArray) (w : World) : Prop := w.heap[b]? = some (.cells #[.int .i64 k, .string t] 36)
theorem Blk.new (w : World) (k : Int) (t : ByteArray) : Blk w.heap.size k t (w.alloc (.cells #[.int .i64 k, .string t] 36)) := heap_alloc_new _ _
theorem Blk.lt {b : Nat} {k : Int} {t : ByteArray} {w : World} (h : Blk b k t w) : b < w.heap.size := Lib.lt_of_heap h
theorem Blk.below {b : Nat} {k : Int} {t : ByteArray} {w w2 : World} (h : Blk b k t w) (hb : Below w.heap.size w w2) : Blk b k t w2 := (hb.block _ h.lt).trans h
theorem Blk.alloc {b : Nat} {k : Int} {t : ByteArray} {w : World} (h : Blk b k t w) (o : Obj) : Blk b k t (w.alloc o) := (heap_alloc_old _ _ h.lt).trans h
theorem Blk.cell0 {b : Nat} {k : Int} {t : ByteArray} {w : World} (h : Blk b k t w) : w.cell? ⟨b, 0, none⟩ = some (.int .i64 k) := cell_of_row _ _ _ _ _ _ h
theorem Blk.cell1 {b : Nat} {k : Int} {t : ByteArray} {w : World} (h : Blk b k t w) : w.cell? ⟨b, 1, none⟩ = some (.string t) := cell_of_row _ _ _ _ _ _ h

end Go.Proofs.Ytejiagmfinhjbaa
