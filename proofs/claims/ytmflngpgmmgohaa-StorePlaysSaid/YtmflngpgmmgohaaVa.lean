/-
  Walks: a strings.Builder takes strings.
-/
import Derived.Test.YtmflngpgmmgohaaShp
import Derived.Lib.FrozenHead
namespace Go.Proofs.Ytmflngpgmmgohaa
open Go.RowKit Go.Shelf

set_option maxRecDepth 100000 in
theorem copyCheck_used (b : Nat) (w : World) (h0 : w.cell? ⟨b, 0, none⟩ = some (.pointer (some ⟨b, 0, none⟩))) :
    Calls Try.prog 78 #[.pointer (some ⟨b, 0, none⟩)] w fun e w' => e = .returned (.tuple #[]) ∧ w' = w := by
  obtain ⟨j, hj, _⟩ := Option.map_eq_some_iff.1 (show (Try.prog.info? 99).map (·.size) = some 2 by kernel_rfl)
  go_enter Try.func78, Try.ntmps78
  go_wp2
  rw [Lib.run_neq_ptr_same w _ Try.underlying97 hj]
  go_wp2
  go_end0
  exact ⟨rfl, rfl⟩

set_option maxRecDepth 100000 in
theorem copyCheck_fresh (b : Nat) (w : World) (h0 : w.cell? ⟨b, 0, none⟩ = some (.pointer none)) (hsh : w.shape? b = some (99, 2)) (hfz : w.frozen? ⟨b, 0, none⟩ = false) :
    Calls Try.prog 78 #[.pointer (some ⟨b, 0, none⟩)] w fun e w' => e = .returned (.tuple #[]) ∧ w' = w.setCell ⟨b, 0, none⟩ (.pointer (some ⟨b, 0, none⟩)) := by
  obtain ⟨j, hj, hjs⟩ := Option.map_eq_some_iff.1 (show (Try.prog.info? 99).map (·.size) = some 2 by kernel_rfl)
  go_enter Try.func78, Try.ntmps78
  go_wp2
  rw [Lib.run_to_unsafe w ⟨b, 0, none⟩ Try.underlying97 Try.underlying122 hj (by rw [hjs]; decide) hsh (Nat.zero_lt_succ 1)]
  simp only [Result.andThen]
  rw [Oper.upon_value]
  go_wp2
  rw [run_callFunc_extern Try.func86 (by kernel_rfl) (by kernel_rfl) (by kernel_rfl) (e := Extern.AbiNoEscape.same) (by kernel_rfl)]
  rw [Lib.run_noEscape]
  simp only [Result.andThen]
  rw [Oper.upon_value]
  go_wp2
  rw [Lib.run_from_unsafe w ⟨b, 0, none⟩ Try.underlying122 Try.underlying97 hj hsh (by kernel_rfl)]
  simp only [Result.andThen]
  rw [Oper.upon_value]
  go_wp2
  go_end0
  exact ⟨rfl, rfl⟩

/-- All blocks below G but b are as they were. -/
structure Bel (G b : Nat) (w w' : World) : Prop where
  os : w'.os = w.os
  tape : w'.tape = w.tape
  output : w'.output = w.output
  size : w.heap.size ≤ w'.heap.size
  block : ∀ k, k < G → k ≠ b → w'.heap[k]? = w.heap[k]?
theorem Bel.refl (G b : Nat) (w : World) : Bel G b w w := ⟨rfl, rfl, rfl, Nat.le_refl _, fun _ _ _ => rfl⟩
theorem Bel.trans {G b : Nat} {x y z : World} (h : Bel G b x y) (k : Bel G b y z) : Bel G b x z :=
  ⟨k.os.trans h.os, k.tape.trans h.tape, k.output.trans h.output, Nat.le_trans h.size k.size, fun i hi hn => (k.block i hi hn).trans (h.block i hi hn)⟩
theorem Bel.of_below {G B b : Nat} {x y : World} (h : Below B x y) (hG : G ≤ B) : Bel G b x y := ⟨h.os, h.tape, h.output, h.size, fun i hi _ => h.block i (by omega)⟩
theorem Bel.below {G b : Nat} {x y : World} (h : Bel G b x y) (hG : b ≤ G) : Below b x y := ⟨h.os, h.tape, h.output, h.size, fun i hi => h.block i (by omega) (by omega)⟩
theorem Bel.set {G b : Nat} {x y : World} (h : Bel G b x y) (i : Nat) (v : Value) : Bel G b x (y.setCell ⟨b, i, none⟩ v) :=
  h.trans ⟨rfl, rfl, rfl, by simp [World.setCell], fun k _ hk => Below.heap_setCell _ _ _ _ hk⟩

/-- The builder in block b has the bytes l; its row lies from G on. -/
def BX (G b : Nat) (p : Value) (l : List UInt8) (w : World) : Prop :=
  ∃ v, w.heap[b]? = some (.cells #[p, v] 99 (0, 0)) ∧ w.ownsRowF G 5 1 v l.length (Lib.byteCells l) ∧ v.ownBlock ≠ some b
def pAt (b : Nat) : Value := .pointer (some ⟨b, 0, none⟩)
def BY (G b : Nat) (l : List UInt8) (w : World) : Prop := BX G b (.pointer none) l w ∨ BX G b (pAt b) l w

theorem ownsRowF_lower {w : World} {B B' : Nat} {e : TypeId} {size n : Nat} {v : Value} {xs : List Value} (h : w.ownsRowF B e size v n xs) (hB : B' ≤ B) : w.ownsRowF B' e size v n xs := by
  refine ⟨h.1, ?_⟩
  rcases h.2 with h2 | ⟨g, cap, cur, fz, h3, h4, h5⟩
  · exact .inl h2
  · exact .inr ⟨g, cap, cur, fz, h3, Nat.le_trans hB h4, h5⟩
theorem BX.at {G b : Nat} {p : Value} {l : List UInt8} {w : World} (h : BX G b p l w) (hG : b ≤ G) : Lib.BuilderAtF 99 5 b b p (Lib.byteCells l) w := by
  obtain ⟨v, h1, h2, h3⟩ := h
  exact ⟨Nat.le_refl _, v, h1, by rw [Lib.byteCells_length]; exact ownsRowF_lower h2 hG, h3⟩
theorem BY.is {G b : Nat} {l : List UInt8} {w : World} (h : BY G b l w) (hG : b ≤ G) : Lib.IsBuilderF 99 5 b b (Lib.byteCells l) w :=
  h.elim (fun h => .inl (h.at hG)) (fun h => .inr (h.at hG))

theorem copyCheck_x {G b : Nat} {l : List UInt8} (w : World) (h : BY G b l w) :
    Calls Try.prog 78 #[.pointer (some ⟨b, 0, none⟩)] w fun e w' => e = .returned (.tuple #[]) ∧ (BX G b (pAt b) l w' ∧ Bel G b w w') := by
  rcases h with h | h
  · obtain ⟨v, h1, h2, h3⟩ := h
    refine (copyCheck_fresh b w (by simp [World.cell?, h1]) (by simp [World.shape?, h1]) (by simp [World.frozen?, h1])).mono ?_
    rintro e w' ⟨rfl, rfl⟩
    refine ⟨rfl, ⟨v, by simp [World.setCell, Array.getElem?_modify, h1, pAt], ?_, h3⟩, (Bel.refl _ _ _).set _ _⟩
    exact h2.kept (row := some b) ⟨rfl, rfl, rfl, by simp [World.setCell], fun k _ hk => Below.heap_setCell _ _ _ _ (fun e => hk (by simp [e]))⟩ (Or.inr h3)
  · have h' := h
    obtain ⟨v, h1, h2, h3⟩ := h'
    refine (copyCheck_used b w (by simp [World.cell?, h1, pAt])).mono ?_
    rintro e w' ⟨rfl, rfl⟩
    exact ⟨rfl, h, Bel.refl _ _ _⟩

set_option maxRecDepth 100000 in
theorem wstr_any (G b : Nat) (l : List UInt8) (s : ByteArray) (w : World) (h : BY G b l w) (hlen : l.length + s.size ≤ 140737488355328) (hG : G ≤ w.heap.size) :
    Calls Try.prog 65 #[.pointer (some ⟨b, 0, none⟩), .string s] w fun e w' => e = .returned (.tuple #[.int .i64 s.size, .nilIface]) ∧ BX G b (pAt b) (l ++ s.data.toList) w' ∧ Bel G b w w' := by
  obtain ⟨i0, hi, hz0, hz1, hz2⟩ := info_parts (show (Try.prog.info? 5).map (fun i => (i.zero, i.size, i.bytes)) = some (some (.int .u8 0), 1, 1) by kernel_rfl)
  have hbl : Lib.byteCells l ++ Lib.strCells s = Lib.byteCells (l ++ s.data.toList) := by
    simp [Lib.byteCells, Lib.strCells]
  go_enter Try.func65, Try.ntmps65
  go_wp2_with (go_at_call 78; refine (copyCheck_x _ h).mono ?_)
  rintro e w1 ⟨rfl, h1, hb1⟩
  obtain ⟨v, hbk, hown, hne⟩ := h1
  have c0 : w1.cell? ⟨b, 0, none⟩ = some (pAt b) := by rw [Lib.cell_of_heap hbk]; rfl
  have c1 : w1.cell? ⟨b, 1, none⟩ = some v := by rw [Lib.cell_of_heap hbk]; rfl
  go_wp2_with (at_builtin; refine Lib.wpList_append_own_stringF _ rfl _ _ 51 9 rfl G 5 i0 Try.underlying51 Try.underlying9 hi hz0 hz1 hz2 _ _ _ rfl hown s rfl ?c3 ?c4 ?c5 ?_)
  case c3 => unfold maxLen; omega
  case c4 => omega
  case c5 => have := hb1.size; omega
  intro v' w2 hown' hgrow _
  have hlt : b < w1.heap.size := by
    rcases Nat.lt_or_ge b w1.heap.size with h' | h'
    · exact h'
    · simp [Array.getElem?_eq_none h'] at hbk
  have hb2 : w2.heap[b]? = some (.cells #[pAt b, v] 99 (0, 0)) := by
    rw [hgrow.block b hlt (fun e => hne e.symm)]
    exact hbk
  have d0 : w2.cell? ⟨b, 0, none⟩ = some (pAt b) := by rw [Lib.cell_of_heap hb2]; rfl
  have d1 : w2.cell? ⟨b, 1, none⟩ = some v := by rw [Lib.cell_of_heap hb2]; rfl
  have f1 : w2.frozen? ⟨b, 1, none⟩ = false := Lib.frozen_of_heap hb2 1
  obtain ⟨ao, n', cap, rfl⟩ : ∃ ao n' cap, v' = .slice ao n' cap := by
    rcases hown'.2 with ⟨hv, _⟩ | ⟨g, cap, cur, fz, hv, _⟩
    · exact ⟨_, _, _, hv⟩
    · exact ⟨_, _, _, hv⟩
  have hbel : Bel G b w1 w2 := ⟨hgrow.os, hgrow.tape, hgrow.output, hgrow.size, fun k hk hkb => hgrow.block k (by have := hb1.size; omega) (fun e => by have := (hown.lt k e.symm).1; omega)⟩
  go_wp2
  go_ret2
  refine ⟨rfl, ?_, (hb1.trans hbel).set _ _⟩
  have hown2 : w2.ownsRowF G 5 1 (.slice ao n' cap) (Lib.byteCells (l ++ s.data.toList)).length (Lib.byteCells (l ++ s.data.toList)) := by
    have e : (Lib.byteCells (l ++ s.data.toList)).length = l.length + s.size := by rw [Lib.byteCells_length]; simp
    rw [e]; exact hown'
  have hfin := Lib.BuilderAtF.put (T := 99) (e := 5) (Nat.zero_le b) hb2 (bs' := Lib.byteCells (l ++ s.data.toList)) (v' := .slice ao n' cap) (ownsRowF_lower hown2 (Nat.zero_le _)) (by decide)
  obtain ⟨_, v3, h31, h32, h33⟩ := hfin
  refine ⟨.slice ao n' cap, by simp [World.setCell, Array.getElem?_modify, hb2], ?_, Lib.ownBlock_neF hown2 hb2 (by decide)⟩
  rw [Lib.byteCells_length] at hown2
  exact hown2.kept (row := some b) ⟨rfl, rfl, rfl, by simp [World.setCell], fun k _ hk => Below.heap_setCell _ _ _ _ (fun e => hk (by simp [e]))⟩ (Or.inr (Lib.ownBlock_neF hown2 hb2 (by decide)))
end Go.Proofs.Ytmflngpgmmgohaa
