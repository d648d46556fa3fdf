/-
  Walks: Literal.
-/
import Derived.Test.YtkppcibffbnhoaaD4
import Derived.Laws.ResultCell
namespace Go.Proofs.Ytkppcibffbnhoaa
open Go.RowKit

/-- The tree of a literal. -/
def litT (n : Nat) : T := .n n (.c true) (.c false)
theorem litT_ok {n : Nat} (h : n < 12) : (litT n).Ok := ⟨trivial, trivial, h, h, by simp⟩
theorem litT_wf {n : Nat} (h : n < 12) : Wf [litT n] := (Wf.nil).snoc (l := n) (h := .c true) (k := .c false) (litT_ok h) trivial trivial (by simp)
theorem litT_nodes (n : Nat) : nodes [litT n] = [(n, 1, 0)] := rfl
theorem litT_ref (n : Nat) : ref [litT n] (litT n) = 2 := by simp [litT, ref]

theorem NS.setRow {w : World} {p : Option Addr} {N : List Tri} {g : Nat} {v0 v1 : Value} {t : TypeId} {fr : Nat × Nat} {cs : Array Value} (h : NS w p N) (hg : w.heap[g]? = some (.cells #[v0, v1] t fr)) : NS (w.setRow g cs) p N := fun k hk => by
  obtain ⟨a, o, h1, h2, h3, h4, h5⟩ := h k hk
  have hne : a ≠ g := fun e => by
    subst e
    simp [World.cell?, hg] at h5
  have hb := setRow_other w g a cs hne
  exact ⟨a, o, h1, by rw [size_setRow]; exact h2, (cell_at hb).trans h3, (cell_at hb).trans h4, (cell_at hb).trans h5⟩
theorem DV.setRow {w : World} {v : Value} {d : T} {g : Nat} {v0 v1 : Value} {t : TypeId} {fr : Nat × Nat} {cs : Array Value} (h : DV w v d) (hg : w.heap[g]? = some (.cells #[v0, v1] t fr)) : DV (w.setRow g cs) v d := by
  obtain ⟨p, cap, e, hns⟩ := h.dd.ex
  exact ⟨h.ok, ⟨p, cap, e, hns.setRow hg⟩⟩
theorem BD.below_of {w w' : World} {B0 B b kb : Nat} {v v' : Value} {N : List Tri} (h : BD w B b kb v N) (hf : Fr [b, kb] v v' w w') (hB0 : B0 ≤ w.heap.size) (hb : B0 ≤ b) (hk : B0 ≤ kb) (hB : B0 ≤ B) : Below B0 w w' :=
  hf.below hB0 (by simp; exact ⟨hb, hk⟩) fun g hg => Nat.le_trans hB (h.own.lt g hg).1
theorem run_results_cell_tmp {P : Program} {fn : Func} {p u : Tmp} {ty : TypeId} (h : fn.results = #[.cell p ty, .tmp u]) (tmps : Array Value) (w : World) (g : Nat) (t : TypeId) (cs : Array Value) (fr : Nat × Nat) (d : TypeDesc)
    (hp : tmps.getD p undef = .pointer (some ⟨g, 0, none⟩)) (hg : w.heap[g]? = some (.cells cs t fr))
    (hu : P.underlying ty = some d) (hd : (match d with | .struct _ | .array _ _ => true | _ => false) = true) (hi : (P.info? ty).map (·.size) = some cs.size) :
    (results fn tmps).run P w = .ok (.tuple #[.agg cs, tmps.getD u undef]) w := by
  have hp' : tmps[p]?.getD undef = .pointer (some ⟨g, 0, none⟩) := by simpa using hp
  simp [results, h, hp', asAddr, run_loadVar_row w g t ty cs fr d hg hu hd hi]

set_option maxRecDepth 100000
set_option maxHeartbeats 4000000 in
theorem literal_any (n : Nat) (hn : n < 12) (w : World) : Calls Try.prog 26 #[.int .i64 n] w fun e w' => ∃ v, e = .returned (.tuple #[v, .int .i64 0]) ∧ DV w' v (litT n) ∧ Below w.heap.size w w' := by
  have hi := fun w => islit_any n w
  have e1 : (decide ((0 : Int) ≤ n) && decide ((n : Int) < 12)) = true := by simp; omega
  simp only [e1] at hi
  have hnn := heap_alloc_new w (.cells #[.slice none 0 0, .int .i64 0] 24)
  have hal := (Below.refl w.heap.size w).alloc (Nat.le_refl _) (.cells #[.slice none 0 0, .int .i64 0] 24)
  clear e1
  go_enter Try.func26, Try.ntmps26
  go_upto_region 3 with (go_at_call 30; refine (hi _).mono ?_; rintro e u ⟨rfl, hu⟩; subst hu)
  have Hal := Lib.hid hal; clear hal
  generalize w.alloc (.cells #[.slice none 0 0, .int .i64 0] 24) = w1 at *
  have hlt := heap_lt hnn
  have hNB := newbuilder_pack w1
  go_upto_region 4 with (go_at_call 29; refine hNB.mono ?_; rintro e w2 ⟨b, kb, rfl, hB2, hb1, hk1, hb2⟩; have HB2 := Lib.hid hB2; clear hB2)
  have hn2 := Lib.hid ((hb2.block _ hlt).trans hnn)
  have Hb2 := Lib.hid (Hal.out.step hb2)
  have hsz := hb2.size
  clear hi hNB hb2 hnn
  have hnode := node_any w1.heap.size b kb _ [] n 1 0 w2 HB2.out hsz (by simp) (by omega) (by omega) (by omega)
  have e2 : nodeR [] n 1 0 = 2 := rfl
  have e3 : nodeN [] n 1 0 = nodes [litT n] := rfl
  rw [e2, e3] at hnode
  clear e2 e3
  have hwf := litT_wf hn
  have hok := litT_ok hn
  have Hok := Lib.hid hok; have Hwf := Lib.hid hwf
  clear hok hwf
  have hfin := fun v w3 (h : BD w3 w1.heap.size b kb v (nodes [litT n])) => finish_any w1.heap.size b kb v [litT n] (litT n) w3 h Hwf.out (by simp) (by simp [litT, inn]) Hok.out
  rw [litT_ref] at hfin
  generalize ht : litT n = t at *
  have Ht := Lib.hid ht; clear ht
  have hnode' : Calls Try.prog 32 #[.pointer (some ⟨b, 0, none⟩), .int .i64 n, .int .i64 1, .int .i64 0] w2 fun e w' => ∃ v', e = .returned (.int .i64 2) ∧ BD w' w1.heap.size b kb v' (nodes [t]) ∧ Fr [b, kb] (.slice none 0 0) v' w2 w' := hnode
  have hfin' : ∀ v w3, BD w3 w1.heap.size b kb v (nodes [t]) → Calls Try.prog 33 #[.pointer (some ⟨b, 0, none⟩), .int .i64 2] w3 fun e w' => ∃ dv, e = .returned dv ∧ DV w' dv t ∧ Below w3.heap.size w3 w' := hfin
  clear hnode hfin
  go_wp2_with (first
    | (go_at_call 32; refine hnode'.mono ?_; rintro e w4 ⟨v4, rfl, hB4, hf4⟩; have HB4 := Lib.hid hB4; clear hB4; have Hf4 := Lib.hid hf4; clear hf4)
    | (go_at_call 33; refine (hfin' _ _ HB4.out).mono ?_; rintro e w5 ⟨dv, rfl, hdv, hb5⟩; obtain ⟨p5, c5, rfl, -⟩ := id hdv.dd.ex; have Hdv := Lib.hid hdv; clear hdv; have hb24 := HB2.out.below_of Hf4.out hsz hb1 hk1 (Nat.le_refl _); have hn5 := (hb5.block _ (Nat.lt_of_lt_of_le hlt (Nat.le_trans hsz hb24.size))).trans ((hb24.block _ hlt).trans hn2.out); have Hb5 := Lib.hid (Hb2.out.trans ((hb24.mono Hal.out.size).trans (hb5.mono (Nat.le_trans Hb2.out.size hb24.size)))); clear hb5 hb24)
    | (with_reducible refine wpList_store_row rfl 24 (.tmp 2) (.tmp 14) rfl _ _ rfl rfl _ _ hn5 (by kernel_rfl) (by kernel_rfl) (by kernel_rfl) ?_))
  refine bodyPost_ret (run_results_cell_tmp rfl _ _ w.heap.size 24 _ (0, 0) _ rfl (setRow_heap _ _ _ _ _ _ hn5) rfl rfl (by kernel_rfl)) rfl ?_
  refine ⟨_, rfl, ?_, below_setRow Hb5.out (Nat.le_refl _)⟩
  rw [Ht.out]
  exact Hdv.out.setRow hn5
end Go.Proofs.Ytkppcibffbnhoaa
