/-
  Walks: a component is closed.
-/
import Derived.Test.YteejlibiidiibaaF2
namespace Go.Proofs.Yteejlibiidiibaa
open Go.RowKit
set_option maxRecDepth 100000
def ofUp (f : Nat → Int) (x : Int) (l : List Int) : Nat → Int := fun m => if (m : Int) ∈ l then x else f m
theorem ofUp_snoc (f : Nat → Int) (x : Int) (l : List Int) (j : Nat) : ofUp f x (l ++ [(j : Int)]) = fun m => if m = j then x else ofUp f x l m := by
  funext m
  unfold ofUp
  by_cases e : m = j
  · subst e; simp
  · have : ¬ (m : Int) = (j : Int) := by omega
    simp [e, this]
theorem ofUp_nil (f : Nat → Int) (x : Int) : ofUp f x [] = f := by funext m; simp [ofUp]
def TS.cut (s : TS) (k : Nat) (G : List Int) : TS := { s with of := ofUp s.of s.gr.length G, op := s.op.take k }
/-- How close ends. -/
def CR (c : FP) (s : TS) (k : Nat) (w : World) (e : Ending) (w' : World) : Prop := ∃ ov' gv', e = .returned (.tuple #[]) ∧ FM c (s.close k (srtI (s.op.drop k))) ov' gv' w' ∧ KP c w w'
set_option maxHeartbeats 16000000 in
theorem close_any (c : FP) (s : TS) (ov gv : Value) (i k : Nat) (w : World) (h : FM c s ov gv w) (hk : s.op[k]? = some (i : Int)) (hne : ∀ j, j < k → s.op.getD j 0 ≠ (i : Int)) (hm : ∀ x ∈ s.op, ∃ m : Nat, m < c.n ∧ x = (m : Int)) (hop : s.op.length ≤ 100000) (hgl : s.gr.length ≤ 100000) :
    Calls Try.prog 42 #[.pointer (some ⟨c.fb, 0, none⟩), .int .i64 i] w (CR c s k w) := by
  have hkl : k < s.op.length := by
    rcases Nat.lt_or_ge k s.op.length with h' | h'
    · exact h'
    · rw [List.getElem?_eq_none h'] at hk; cases hk
  obtain ⟨po, co, rfl⟩ := own_slice h.own
  obtain ⟨pg, cg, rfl⟩ : ∃ p cp, gv = .slice p s.gr.length cp := by obtain ⟨gs, g1, _⟩ := h.grp; exact own_slice g1
  have hnn := h.ok.hn
  obtain ⟨g, rfl⟩ := own_ptr h.own (by omega)
  have hcap := own_cap h.own
  have hrc := RC.of_own h.own
  have hci := index_any (some ⟨g, 0, none⟩) co s.op k i w hrc hk hne (by omega)
  have hdl : (s.op.drop k).length = s.op.length - k := by simp
  have hcc := clone_any (some ⟨g, 0 + k, none⟩) (co - k) (s.op.drop k) w (RC.drop hrc (by omega)) (by omega) (by omega)
  rw [hdl, Nat.zero_add] at hcc
  obtain ⟨⟨q0, q1, q2⟩, ⟨q3, q4, q5⟩, q6⟩ := cells6 h.blk
  have hcnk : ¬ co = k := by omega
  have H := Lib.hid h; have Hci := Lib.hid hci; have Hcc := Lib.hid hcc; have Hm := Lib.hid hm
  clear h hrc hci hcc hdl q0 q1 q2 q3 q5 q6 hk hne hm
  go_enter Try.func42, Try.ntmps42
  go_upto_region 2 with (first
    | (go_at_call 38; refine Hci.out.mono ?_; rintro e w2 ⟨rfl, rfl⟩)
    | (go_at_call 43; refine Hcc.out.mono ?_; rintro e w2 ⟨v5, rfl, hO, hB⟩; have HO := Lib.hid hO; have HB := Lib.hid hB; clear hO hB))
  obtain ⟨p5, c5, rfl⟩ := own_slice HO.out
  obtain ⟨a5, rfl⟩ := own_ptr HO.out (by omega)
  have F2 := Lib.hid (H.out.grow HB.out)
  obtain ⟨⟨q0, q1, q2⟩, ⟨q3, q4, q5⟩, q6⟩ := cells6 F2.out.blk
  have hfz := q6 4
  clear q0 q1 q2 q3 q5 q6
  have hu : Upd c.fb (.cells #[.slice c.p c.n c.cp, .slice (some ⟨c.nb, 0, none⟩) c.n c.n, .slice (some ⟨c.lb, 0, none⟩) c.n c.n, .slice (some ⟨c.ob, 0, none⟩) c.n c.n, .slice (some ⟨g, 0, none⟩) k co, .slice pg s.gr.length cg] 57) w2 (w2.setCell ⟨c.fb, 4, none⟩ (.slice (some ⟨g, 0, none⟩) k co)) :=
    Upd.cast (Upd.set (i := 4) (v := .slice (some ⟨g, 0, none⟩) k co) (Upd.refl F2.out.blk)) (by simp)
  have HU := Lib.hid hu; clear hu
  go_upto_region 3 with fail
  generalize w2.setCell ⟨c.fb, 4, none⟩ (.slice (some ⟨g, 0, none⟩) k co) = w3 at *
  have hfN : c.fb < w.heap.size := heap_lt H.out.blk
  have hO3 : w3.ownsRow w.heap.size 3 1 (.slice (some ⟨a5, 0, none⟩) (s.op.length - k) c5) (s.op.drop k).length (ic (s.op.drop k)) := by
    rw [show (s.op.drop k).length = s.op.length - k by simp]
    exact ownsRow_at HO.out fun g hg => HU.out.other g (by have := (HO.out.lt g hg).1; omega)
  have Hcs := Lib.hid (sorti_any w.heap.size _ (s.op.drop k) (by simp; omega) w3 hO3)
  clear hO3
  go_upto_region 4 with (go_at_call 44; refine Hcs.out.mono ?_; rintro e w4 ⟨rfl, hO4, hB4⟩; have HO4 := Lib.hid hO4; have HB4 := Lib.hid hB4; clear hO4 hB4)
  have hk4 : ∀ b, b < w.heap.size → b ≠ c.fb → w4.heap[b]? = w.heap[b]? := fun b hb hne => (HB4.out.block b hb).trans ((HU.out.other b hne).trans (HB.out.block b hb))
  have F4 := Lib.hid (H.out.cut (ov' := .slice (some ⟨g, 0, none⟩) k co) (w3 := w4) k (own_take H.out.own (by omega) (by omega)) (fun g' hg' => hg') hk4 (Nat.le_trans HB.out.size (by rw [← HU.out.size]; exact HB4.out.size)) ((HB4.out.block _ hfN).trans HU.out.blk))
  have hH : c.H ≤ w.heap.size := by have := H.out.ok.rfb.1; omega
  have K4 := Lib.hid (KP.mk (c := c) (w := w) (w' := w4) ⟨HB4.out.os.trans (HU.out.os.trans HB.out.os), HB4.out.tape.trans (HU.out.tape.trans HB.out.tape), HB4.out.output.trans (HU.out.output.trans HB.out.output), Nat.le_trans HB.out.size (by rw [← HU.out.size]; exact HB4.out.size), fun b hb => hk4 b (by omega) (by have := H.out.ok.rfb.1; omega)⟩ (fun b arr t hb hne _ _ => hk4 b (heap_lt hb) hne))
  have hGl : (srtI (s.op.drop k)).length = s.op.length - k := by rw [srtI_len]; simp
  have HGm := Lib.hid (show ∀ x ∈ srtI (s.op.drop k), ∃ m : Nat, m < c.n ∧ x = (m : Int) from fun x hx => Hm.out x (List.mem_of_mem_drop ((srtI_mem _ _).1 hx)))
  have HGO := Lib.hid (show w4.ownsRow w.heap.size 3 1 (.slice (some ⟨a5, 0, none⟩) (s.op.length - k) c5) (srtI (s.op.drop k)).length (ic (srtI (s.op.drop k))) from HO4.out)
  have Hgoal := Lib.hid (show ∀ (ov' gv' : Value) (w' : World), FM c { (s.cut k (srtI (s.op.drop k))) with gr := s.gr ++ [srtI (s.op.drop k)] } ov' gv' w' → KP c w w' → CR c s k w (.returned (.tuple #[])) w' from fun ov' gv' w' h1 h2 => ⟨ov', gv', rfl, h1, h2⟩)
  have hBN : c.B ≤ w.heap.size := H.out.sz
  have hgN : g < w.heap.size := (H.out.own.lt g rfl).2
  generalize srtI (s.op.drop k) = G at *
  clear hk4 hH hfz q4
  rw [hGl] at HGO
  have HGl := Lib.hid hGl; clear hGl
  have hLl : s.op.length - k ≤ 100000 := by omega
  generalize s.op.length - k = Ln at *
  go_wp2
  go_loopw [34] (fun j wr => ∃ m : Nat, j = .int .i64 m ∧ m ≤ Ln ∧ FM c (s.cut k (G.take m)) (.slice (some ⟨g, 0, none⟩) k co) (.slice pg s.gr.length cg) wr ∧ wr.ownsRow w.heap.size 3 1 (.slice (some ⟨a5, 0, none⟩) Ln c5) Ln (ic G) ∧ KP c w wr) (fun j _ => Ln - (intOf j).toNat)
  case atStart => exact ⟨0, rfl, by omega, by rw [List.take_zero]; unfold TS.cut; rw [ofUp_nil]; exact F4.out, HGO.out, K4.out⟩
  case round =>
    obtain ⟨m, rfl, hml, hF, hO, hK⟩ := hrel
    have HF := Lib.hid hF; have HO := Lib.hid hO; have HK := Lib.hid hK
    clear hF hO hK
    by_cases hlt : m < Ln
    · obtain ⟨a', o', he, _, z0⟩ := (RC.of_own HO.out).at (L := G) (m := m) (by rw [HGl.out]; exact hlt)
      injection he with he; injection he with h1 h2; subst h1 h2
      simp only [Nat.zero_add] at z0
      have htk : G.take (m + 1) = G.take m ++ [G[m]'(by rw [HGl.out]; exact hlt)] := List.take_succ_eq_append_getElem (by rw [HGl.out]; exact hlt)
      obtain ⟨jn, hjn, hje⟩ := HGm.out _ (List.getElem_mem (by rw [HGl.out]; exact hlt : m < G.length))
      rw [hje] at z0 htk
      have Htk := Lib.hid htk
      obtain ⟨⟨q0, q1, q2⟩, ⟨q3, q4, q5⟩, q6⟩ := cells6 HF.out.blk
      have r1 := HF.out.of.cell hjn
      have r2 := HF.out.of.free jn
      have Hset := Lib.hid (HF.out.setOf hjn (s.gr.length : Int))
      clear htk hje q0 q1 q2 q4 q6
      go_wp2_with (first
        | ((with_reducible refine Lex.at_region ?_); with_reducible refine Lex.wp_region_lex (by kernel_rfl) (by decide +kernel) ?_)
        | ((with_reducible refine Lex.at_fin ?_); with_reducible refine Lex.fin_on (by kernel_rfl) ?_))
      refine ⟨⟨m + 1, by go_num, by omega, ?_, ?_, ?_⟩, by simp [intOf]; omega⟩
      · have h1 := Hset.out.1.drew
        rw [Htk.out]
        unfold TS.cut at h1 ⊢
        rw [ofUp_snoc]
        exact h1
      · obtain ⟨o, hu⟩ := Hset.out.2
        exact ownsRow_at HO.out fun g hg => hu.other g (by have := (HO.out.lt g hg).1; have := HF.out.ok.rob.2; omega)
      · exact (HK.out.trans (KP.of_tch HF.out.ok.rob.1 Hset.out.2 (.inr (by obtain ⟨tc, h⟩ := HF.out.of.ty; exact ⟨tc, 3, h, .inl rfl⟩)))).drew
    · obtain rfl : m = Ln := by omega
      have hF := HF.out
      rw [List.take_of_length_le (by rw [HGl.out]; exact Nat.le_refl _)] at hF
      have HF' := Lib.hid hF
      obtain ⟨⟨q0, q1, q2⟩, ⟨q3, q4, q5⟩, q6⟩ := cells6 hF.blk
      obtain ⟨gs, g1, g2⟩ := hF.grp
      have Hg1 := Lib.hid g1; have Hg2 := Lib.hid g2
      have HOG := Lib.hid (show wr.ownsRow w.heap.size 3 1 (.slice (some ⟨a5, 0, none⟩) G.length c5) G.length (ic G) from by rw [HGl.out]; exact HO.out)
      have Hov := Lib.hid (show ∀ g', (Value.slice (some ⟨g, 0, none⟩) k co).ownBlock = some g' → g' < w.heap.size from fun g' hg' => by cases hg'; exact hgN)
      have b6 : Below wr.heap.size wr (wr.alloc (.cells #[.slice (some ⟨a5, 0, none⟩) m c5] 22)) := (Below.refl _ _).alloc (Nat.le_refl _) _
      have n6 := heap_alloc_new wr (.cells #[.slice (some ⟨a5, 0, none⟩) m c5] 22)
      have Ho6 := Lib.hid (ownsRow_below Hg1.out b6 (Nat.le_refl _))
      have Hbz := Lib.hid (Nat.le_trans HF'.out.sz b6.size)
      have Hrc := Lib.hid (show RC (wr.alloc (.cells #[.slice (some ⟨a5, 0, none⟩) m c5] 22)) 1 (some ⟨wr.heap.size, 0, none⟩) 1 [.slice (some ⟨a5, 0, none⟩) m c5] from RC.row rfl n6 (fun j u hu => by simpa using hu))
      have hbd : s.gr.length + 1 ≤ 67108864 := by omega
      clear hF q0 q1 q2 q3 q4 g1 g2 b6 n6
      go_wp2_with (at_builtin; go_loud (refine wpList_append_ownrc rfl (.tmp 54) (.tmp 56) 23 rfl 22 (by kernel_rfl) slice_info rfl (by decide) (by decide) c.B _ (some ⟨wr.heap.size, 0, none⟩) s.gr.length 1 1 gs [.slice (some ⟨a5, 0, none⟩) m c5] Hbz.out (.slice pg s.gr.length cg) rfl rfl Ho6.out Hrc.out (by simp [Value.oneCell']) hbd ?_); intro v7 w7 ho7 hf7; obtain ⟨p7, c7, rfl⟩ := own_slice ho7; have FG := Lib.hid (HF'.out.group HOG.out hBN Hov.out (by rw [HGl.out]) hf7 gs Hg1.out Hg2.out (by rw [HGl.out]; exact ho7)); obtain ⟨-, ⟨g3, g4, g5⟩, g6⟩ := cells6 (FG.out.2.2.trans HF'.out.blk); have g7 := g6 5; clear ho7 hf7 g3 g4 g6)
      go_end0
      exact Hgoal.out _ _ _ FG.out.1 (HK.out.trans FG.out.2.1)
end Go.Proofs.Yteejlibiidiibaa
