/-
  Walks: the law's cut; the store's small methods.
-/
import Derived.Test.YtmflngpgmmgohaaSj
import Derived.Test.YtmflngpgmmgohaaDiskB
import Derived.Maps.OwnSet
namespace Go.Proofs.Ytmflngpgmmgohaa
open Go.RowKit

def cutS (s : ByteArray) (n : Nat) : ByteArray := s.extract 0 (min s.size n)
theorem cutS_le {s : ByteArray} {n : Nat} (h : s.size ≤ n) : cutS s n = s := by unfold cutS; rw [Nat.min_eq_left h]; simp
theorem cutS_gt {s : ByteArray} {n : Nat} (h : n < s.size) : cutS s n = s.extract 0 n := by unfold cutS; rw [Nat.min_eq_right (Nat.le_of_lt h)]
theorem cutS_size (s : ByteArray) (n : Nat) : (cutS s n).size ≤ n := by unfold cutS; simp; omega
def cutK (r : Rec) : Rec := (cutS r.1 20, cutS r.2 30)

set_option maxRecDepth 100000 in
set_option maxHeartbeats 8000000 in
theorem lawcut_1 (k d : ByteArray) (w : World) (h1 : k.size ≤ 20) (h2 : d.size ≤ 30) :
    Calls Try.prog 25 #[.agg #[.string k, .string d]] w fun e w' => e = .returned (.agg #[.string (cutS k 20), .string (cutS d 30)]) ∧ Below w.heap.size w w' := by
  rw [cutS_le h1, cutS_le h2]
  have hb := Below.refl w.heap.size w
  have hg0 := heap_alloc2_new w (.cells #[.string k, .string d] 44) (.cells rec0 44)
  have hB2 := (hb.alloc (Nat.le_refl _) (.cells #[.string k, .string d] 44)).alloc (by simp) (.cells rec0 44)
  go_enter Try.func25, Try.ntmps25
  go_wp2_with (first
    | (with_reducible refine Lex.wp_region_lex (by kernel_rfl) (by decide +kernel) ?_)
    | (with_reducible refine Lex.fin_on (by kernel_rfl) ?_)
    | (with_reducible refine wpList_store_row rfl 44 (.tmp 2) (.tmp 17) rfl _ _ rfl rfl _ _ hg0 (by kernel_rfl) (by kernel_rfl) (by kernel_rfl) ?_))
  refine bodyPost_ret (results_cell_row rfl _ _ (w.heap.size + 1) 44 _ (0, 0) _ rfl (setRow_heap _ _ _ _ _ _ hg0) rfl rfl (by kernel_rfl)) rfl ⟨rfl, ?_⟩
  first
    | exact below_setRow hB2 (by omega) _
    | exact (below_setRow hB2 (by omega) _).drew
    | exact below_setRow hB2.drew (by omega) _
set_option maxRecDepth 100000 in
set_option maxHeartbeats 8000000 in
theorem lawcut_2 (k d : ByteArray) (w : World) (h1 : k.size ≤ 20) (h2 : 30 < d.size) :
    Calls Try.prog 25 #[.agg #[.string k, .string d]] w fun e w' => e = .returned (.agg #[.string (cutS k 20), .string (cutS d 30)]) ∧ Below w.heap.size w w' := by
  rw [cutS_le h1, cutS_gt h2]
  have hb := Below.refl w.heap.size w
  have hg0 := heap_alloc2_new w (.cells #[.string k, .string d] 44) (.cells rec0 44)
  have hB2 := (hb.alloc (Nat.le_refl _) (.cells #[.string k, .string d] 44)).alloc (by simp) (.cells rec0 44)
  go_enter Try.func25, Try.ntmps25
  go_wp2_with (first
    | (with_reducible refine Lex.wp_region_lex (by kernel_rfl) (by decide +kernel) ?_)
    | (with_reducible refine Lex.fin_on (by kernel_rfl) ?_)
    | (with_reducible refine wpList_store_row rfl 44 (.tmp 2) (.tmp 17) rfl _ _ rfl rfl _ _ hg0 (by kernel_rfl) (by kernel_rfl) (by kernel_rfl) ?_))
  refine bodyPost_ret (results_cell_row rfl _ _ (w.heap.size + 1) 44 _ (0, 0) _ rfl (setRow_heap _ _ _ _ _ _ hg0) rfl rfl (by kernel_rfl)) rfl ⟨rfl, ?_⟩
  first
    | exact below_setRow hB2 (by omega) _
    | exact (below_setRow hB2 (by omega) _).drew
    | exact below_setRow hB2.drew (by omega) _
set_option maxRecDepth 100000 in
set_option maxHeartbeats 8000000 in
theorem lawcut_3 (k d : ByteArray) (w : World) (h1 : 20 < k.size) (h2 : d.size ≤ 30) :
    Calls Try.prog 25 #[.agg #[.string k, .string d]] w fun e w' => e = .returned (.agg #[.string (cutS k 20), .string (cutS d 30)]) ∧ Below w.heap.size w w' := by
  rw [cutS_gt h1, cutS_le h2]
  have hb := Below.refl w.heap.size w
  have hg0 := heap_alloc2_new w (.cells #[.string k, .string d] 44) (.cells rec0 44)
  have hB2 := (hb.alloc (Nat.le_refl _) (.cells #[.string k, .string d] 44)).alloc (by simp) (.cells rec0 44)
  go_enter Try.func25, Try.ntmps25
  go_wp2_with (first
    | (with_reducible refine Lex.wp_region_lex (by kernel_rfl) (by decide +kernel) ?_)
    | (with_reducible refine Lex.fin_on (by kernel_rfl) ?_)
    | (with_reducible refine wpList_store_row rfl 44 (.tmp 2) (.tmp 17) rfl _ _ rfl rfl _ _ hg0 (by kernel_rfl) (by kernel_rfl) (by kernel_rfl) ?_))
  refine bodyPost_ret (results_cell_row rfl _ _ (w.heap.size + 1) 44 _ (0, 0) _ rfl (setRow_heap _ _ _ _ _ _ hg0) rfl rfl (by kernel_rfl)) rfl ⟨rfl, ?_⟩
  first
    | exact below_setRow hB2 (by omega) _
    | exact (below_setRow hB2 (by omega) _).drew
    | exact below_setRow hB2.drew (by omega) _
set_option maxRecDepth 100000 in
set_option maxHeartbeats 8000000 in
theorem lawcut_4 (k d : ByteArray) (w : World) (h1 : 20 < k.size) (h2 : 30 < d.size) :
    Calls Try.prog 25 #[.agg #[.string k, .string d]] w fun e w' => e = .returned (.agg #[.string (cutS k 20), .string (cutS d 30)]) ∧ Below w.heap.size w w' := by
  rw [cutS_gt h1, cutS_gt h2]
  have hb := Below.refl w.heap.size w
  have hg0 := heap_alloc2_new w (.cells #[.string k, .string d] 44) (.cells rec0 44)
  have hB2 := (hb.alloc (Nat.le_refl _) (.cells #[.string k, .string d] 44)).alloc (by simp) (.cells rec0 44)
  go_enter Try.func25, Try.ntmps25
  go_wp2_with (first
    | (with_reducible refine Lex.wp_region_lex (by kernel_rfl) (by decide +kernel) ?_)
    | (with_reducible refine Lex.fin_on (by kernel_rfl) ?_)
    | (with_reducible refine wpList_store_row rfl 44 (.tmp 2) (.tmp 17) rfl _ _ rfl rfl _ _ hg0 (by kernel_rfl) (by kernel_rfl) (by kernel_rfl) ?_))
  refine bodyPost_ret (results_cell_row rfl _ _ (w.heap.size + 1) 44 _ (0, 0) _ rfl (setRow_heap _ _ _ _ _ _ hg0) rfl rfl (by kernel_rfl)) rfl ⟨rfl, ?_⟩
  first
    | exact below_setRow hB2 (by omega) _
    | exact (below_setRow hB2 (by omega) _).drew
    | exact below_setRow hB2.drew (by omega) _
theorem lawcut_any (r : Rec) (w : World) :
    Calls Try.prog 25 #[.agg #[.string r.1, .string r.2]] w fun e w' => e = .returned (.agg #[.string (cutK r).1, .string (cutK r).2]) ∧ Below w.heap.size w w' := by
  rcases (show r.1.size ≤ 20 ∨ 20 < r.1.size by omega) with h1 | h1 <;> rcases (show r.2.size ≤ 30 ∨ 30 < r.2.size by omega) with h2 | h2
  · exact lawcut_1 _ _ w h1 h2
  · exact lawcut_2 _ _ w h1 h2
  · exact lawcut_3 _ _ w h1 h2
  · exact lawcut_4 _ _ w h1 h2

/-! ### The store -/
/-- Nothing but the blocks of S has turned. -/
structure But (S : List Nat) (w w' : World) : Prop where
  os : w'.os = w.os
  tape : w'.tape = w.tape
  output : w'.output = w.output
  size : w.heap.size ≤ w'.heap.size
  block : ∀ k, k < w.heap.size → k ∉ S → w'.heap[k]? = w.heap[k]?
theorem But.refl (S : List Nat) (w : World) : But S w w := ⟨rfl, rfl, rfl, Nat.le_refl _, fun _ _ _ => rfl⟩
theorem But.trans {S : List Nat} {a b c : World} (h : But S a b) (k : But S b c) : But S a c :=
  ⟨k.os.trans h.os, k.tape.trans h.tape, k.output.trans h.output, Nat.le_trans h.size k.size, fun i hi hn => (k.block i (Nat.lt_of_lt_of_le hi h.size) hn).trans (h.block i hi hn)⟩
theorem But.mono {S T : List Nat} {a b : World} (h : But S a b) (hs : ∀ x ∈ S, x ∈ T) : But T a b := ⟨h.os, h.tape, h.output, h.size, fun i hi hn => h.block i hi fun hx => hn (hs _ hx)⟩
theorem But.of_below {S : List Nat} {a b : World} (h : Below a.heap.size a b) : But S a b := ⟨h.os, h.tape, h.output, h.size, fun i hi _ => h.block i hi⟩
theorem But.of_upd {S : List Nat} {b : Nat} {o : Obj} {w w' : World} (h : Upd b o w w') (hb : b ∈ S) : But S w w' := ⟨h.os, h.tape, h.output, by rw [h.size]; exact Nat.le_refl _, fun i _ hn => h.other i fun e => hn (e ▸ hb)⟩
theorem But.of_turned {S : List Nat} {b : Nat} {w w' : World} (h : w.mapTurned w' b) (hb : b ∈ S) : But S w w' := ⟨h.grown.os, h.grown.tape, h.grown.output, h.grown.size, fun i hi hn => h.grown.block i hi fun e => hn (by cases e; exact hb)⟩
theorem But.alloc {S : List Nat} {a b : World} (h : But S a b) (o : Obj) : But S a (b.alloc o) := h.trans (But.of_below ((Below.refl _ _).alloc (Nat.le_refl _) o))
theorem But.drew {S : List Nat} {a b : World} (h : But S a b) : But S a b.drew := ⟨h.os, h.tape, h.output, h.size, h.block⟩
theorem But.below {S : List Nat} {B : Nat} {a b : World} (h : But S a b) (hB : B ≤ a.heap.size) (hS : ∀ x ∈ S, B ≤ x) : Below B a b :=
  ⟨h.os, h.tape, h.output, h.size, fun i hi => h.block i (by omega) fun hx => by have := hS _ hx; omega⟩
theorem ownsMap_at {w w' : World} {k : TypeId} {R : Value → Option (DataW Unit × List MemPlace)} {b n : Nat} {D : DataW Unit} (h : w.ownsMap Try.prog k R b n D) (hb : w'.heap[b]? = w.heap[b]?) : w'.ownsMap Try.prog k R b n D := by
  obtain ⟨es, clock, h1, h2⟩ := h
  exact ⟨es, clock, hb.trans h1, h2⟩

abbrev MD := DataW Unit
def sk (k : ByteArray) : Lit := .string k.data.toList
def ownsS (w : World) (b n : Nat) (D : MD) : Prop := w.ownsMap Try.prog 9 (plainElem Try.prog 9) b n D
theorem ownsS_at {w w' : World} {b n : Nat} {D : MD} (h : ownsS w b n D) (hb : w'.heap[b]? = w.heap[b]?) : ownsS w' b n D := ownsMap_at h hb
theorem ownsS_mono {w : World} {b n m : Nat} {D : MD} (h : ownsS w b n D) (hn : n ≤ m) : ownsS w b m D := World.ownsMap.mono h hn

structure SM where
  db : Nat
  mb : Nat
  n : Nat
  size : Nat
  D : MD

/-- The store s has the records of S in its map, and the disk Dk. -/
structure StoreAt (w : World) (s : Nat) (S : SM) (nn : Nat) : Prop where
  blk : w.heap[s]? = some (.cells #[.pointer (some ⟨S.db, 0, none⟩), .map (some S.mb), .int .i64 S.n, .int .i64 S.size] 91)
  own : ownsS w S.mb nn S.D
  ne1 : s ≠ S.mb
  ne2 : s ≠ S.db
  ne3 : S.mb ≠ S.db

def setD (D : MD) (k d : ByteArray) : MD := if d = ⟨#[]⟩ then D.del (sk k) else D.put (sk k) (.lit (.string d.data.toList))

theorem cells4 {w : World} {b : Nat} {v0 v1 v2 v3 : Value} {t : TypeId} (h : w.heap[b]? = some (.cells #[v0, v1, v2, v3] t)) :
    w.cell? ⟨b, 0, none⟩ = some v0 ∧ w.cell? ⟨b, 1, none⟩ = some v1 ∧ w.cell? ⟨b, 2, none⟩ = some v2 ∧ w.cell? ⟨b, 3, none⟩ = some v3 ∧ ∀ i, w.frozen? ⟨b, i, none⟩ = false := by
  simp [World.cell?, World.frozen?, h]

theorem slen_any (s : Nat) (S : SM) (nn : Nat) (w : World) (h : StoreAt w s S nn) :
    Calls Try.prog 36 #[.pointer (some ⟨s, 0, none⟩)] w fun e w' => e = .returned (.int .i64 S.n) ∧ w' = w := by
  obtain ⟨c0, c1, c2, c3, fz⟩ := cells4 h.blk
  clear h
  go_enter Try.func36, Try.ntmps36
  go_wp2_with (first
    | (with_reducible refine Lex.wp_region_lex (by kernel_rfl) (by decide +kernel) ?_)
    | (with_reducible refine Lex.fin_on (by kernel_rfl) ?_))
  go_ret
  exact ⟨rfl, rfl⟩
end Go.Proofs.Ytmflngpgmmgohaa
