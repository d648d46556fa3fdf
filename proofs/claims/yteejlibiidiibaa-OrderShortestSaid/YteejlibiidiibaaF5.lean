/-
  Walks: visit.
-/
import Derived.Test.YteejlibiidiibaaF4
import Derived.Outline
namespace Go.Proofs.Yteejlibiidiibaa
open Go.RowKit
set_option maxRecDepth 100000
/-- How visit ends. -/
def VR (c : FP) (E : Gr) (s : TS) (root : Nat) (w : World) (e : Ending) (w' : World) : Prop := ∃ s' ov' gv', e = .returned (.tuple #[]) ∧ FM c s' ov' gv' w' ∧ TI E s' [] ∧ TB E s' ∧ (∀ v, s.num v ≠ 0 → s'.num v ≠ 0) ∧ s'.num root ≠ 0 ∧ KP c w w'
structure VC (w0 : World) (c : FP) (E : Gr) (w : World) : Prop where
  gs : GS w0 c.p c.n E
  sm : SmallG E
  b0 : Below w0.heap.size w0 w
  h0 : w0.heap.size ≤ c.H
theorem VC.next {w0 w w' : World} {c : FP} {E : Gr} (h : VC w0 c E w) (k : Below c.H w w') : VC w0 c E w' := ⟨h.gs, h.sm, h.b0.trans (k.mono h.h0), h.h0⟩
def LV (w0 w : World) (c : FP) (E : Gr) (s0 : TS) (root : Nat) (q : Nat) (wv : Value) (wr : World) : Prop :=
  ∃ s W ov gv, VM c w.heap.size s W ov gv wv wr ∧ TI E s W ∧ TB E s ∧ (∀ v, s0.num v ≠ 0 → s.num v ≠ 0) ∧ s.num root ≠ 0 ∧ KP c w wr ∧ VC w0 c E wr ∧ s.left E W ≤ q
theorem begin_mono {s : TS} {j v : Nat} (h : s.num v ≠ 0) : (s.begin' j).num v ≠ 0 := by
  by_cases e : v = j
  · subst e; rw [show (s.begin' v).num v = s.cnt + 1 from upN_at _ _ _]; omega
  · rw [show (s.begin' j).num v = s.num v from upN_ne e]; exact h
set_option maxHeartbeats 32000000 in
theorem visit_any (w0 : World) (c : FP) (E : Gr) (s : TS) (ov gv : Value) (root : Nat) (w : World) (hV : VC w0 c E w) (h : FM c s ov gv w) (hT : TI E s []) (hB : TB E s) (hr : root < E.length) (h0 : s.num root = 0) :
    Calls Try.prog 35 #[.pointer (some ⟨c.fb, 0, none⟩), .int .i64 root, .pointer (some ⟨c.cb, 0, none⟩)] w (VR c E s root w) := by
  have hn := h.ok.hn
  have hne : c.n = E.length := hV.gs.len
  have HV := Lib.hid hV; have H := Lib.hid h; have HT := Lib.hid hT; have HB := Lib.hid hB; have Hne := Lib.hid hne; have H0 := Lib.hid h0
  have hmf : ∀ (fn : Fn) (first cap : Array Value) (w : World), (Instr.makeFunc fn first cap).run Try.prog w = .ok (.func fn first cap) w := fun _ _ _ _ => rfl
  have hb1 := (Below.refl w.heap.size w).alloc (Nat.le_refl _) (.cells #[.pointer (some ⟨c.fb, 0, none⟩)] 55)
  have hn1 := heap_alloc_new w (.cells #[.pointer (some ⟨c.fb, 0, none⟩)] 55)
  have hs1 : (w.alloc (.cells #[.pointer (some ⟨c.fb, 0, none⟩)] 55)).heap.size = w.heap.size + 1 := by simp
  clear hV h hT hB hne h0
  go_enter Try.func35, Try.ntmps35
  go_upto_region 1 with fail
  generalize w.alloc (.cells #[.pointer (some ⟨c.fb, 0, none⟩)] 55) = w1 at *
  have hb2 := (Below.refl w1.heap.size w1).alloc (Nat.le_refl _) (.cells #[.pointer (some ⟨c.cb, 0, none⟩)] 59)
  have hn2 := heap_alloc_new w1 (.cells #[.pointer (some ⟨c.cb, 0, none⟩)] 59)
  have hs2 : (w1.alloc (.cells #[.pointer (some ⟨c.cb, 0, none⟩)] 59)).heap.size = w1.heap.size + 1 := by simp
  generalize w1.alloc (.cells #[.pointer (some ⟨c.cb, 0, none⟩)] 59) = w2 at *
  rw [hs1] at hn2 hb2 hs2
  have hvb := (hb2.block _ (by omega)).trans hn1
  have hB02 : Below w.heap.size w w2 := hb1.trans (hb2.mono (by omega))
  have hF2 := H.out.grow hB02
  have hH : c.H ≤ w.heap.size := by have := H.out.ok.rfb.1; have := heap_lt H.out.blk; omega
  have hK2 := KP.of_below (c := c) hB02 hH
  have F2 := Lib.hid hF2; have K2 := Lib.hid hK2; have Hvb := Lib.hid hvb; have Hvc := Lib.hid hn2; have Hs2 := Lib.hid hs2; have HH := Lib.hid hH; have Hs1 := Lib.hid hs1
  have hrn : root < c.n := by rw [Hne.out]; exact hr
  have hcn : s.cnt ≤ 1000000 := by have := HB.out.b; have := Hne.out; omega
  have hop : s.op.length ≤ 1000000 := by have := HB.out.a; omega
  have Hcb := Lib.hid (begin_any c s ov gv w.heap.size (w.heap.size + 1) root w2 F2.out Hvb.out Hvc.out hrn hcn hop)
  clear hb1 hn1 hb2 hn2 hvb hB02 hF2 hH hK2 hcn hop
  clear hs1 hs2
  go_upto_region 2 with fail
  go_wp2_with (go_at_call 41; refine Hcb.out.mono ?_; rintro e w3 ⟨ov3, rfl, h1, h2⟩; have F3 := Lib.hid h1; have K3 := Lib.hid h2; clear h1 h2)
  have hstart : ∃ N, LV w0 w c E s root N (.slice (some ⟨w3.heap.size, 0, none⟩) 1 1) (w3.alloc (.cells #[.int .i64 root, .int .i64 0] 70)) := by
    have b4 : Below w3.heap.size w3 (w3.alloc (.cells #[.int .i64 root, .int .i64 0] 70)) := (Below.refl _ _).alloc (Nat.le_refl _) _
    have n4 := heap_alloc_new w3 (.cells #[.int .i64 root, .int .i64 0] 70)
    have hBw := H.out.sz
    have hfb := H.out.ok.rfb.2
    have hvb3 := (K3.out.keep _ _ _ Hvb.out (by omega) (by decide) (by decide)).trans Hvb.out
    have hvc3 := (K3.out.keep _ _ _ Hvc.out (by omega) (by decide) (by decide)).trans Hvc.out
    have hs3 := K3.out.below.size
    have hHs := HH.out
    have hk4 := (K2.out.trans K3.out).then_below b4 (by have := Hs2.out; omega)
    refine ⟨_, s.begin' root, [(root, 0)], ov3, gv, ⟨F3.out.grow b4, (b4.block _ (heap_lt hvb3)).trans hvb3, (b4.block _ (heap_lt hvc3)).trans hvc3, ?_⟩, ?_, HB.out.begin' hr H0.out, fun v hv => begin_mono hv, ?_, hk4, HV.out.next hk4.below, Nat.le_refl _⟩
    · refine ⟨by simp [stc], .inr ⟨w3.heap.size, 1, _, rfl, by have := Hs2.out; omega, n4, Nat.le_refl _, by unfold maxLen; omega, by simp, by simp [stc]⟩⟩
    · exact HT.out.push (W := []) hr H0.out fun k i d hk => (no_get hk).elim
    · rw [show (s.begin' root).num root = s.cnt + 1 from upN_at _ _ _]; omega
  obtain ⟨N, hstart⟩ := hstart
  have HS := Lib.hid hstart
  clear hstart
  generalize w3.alloc (.cells #[.int .i64 root, .int .i64 0] 70) = w4 at *
  generalize w3.heap.size = g3 at *
  go_loopg [7] N (fun q a wr => LV w0 w c E s root q a wr)
  case atStart => exact HS.out
  case round =>
    obtain ⟨s1, W, ov1, gv1, hM, hT1, hB1, hm1, hr1, hK1, hV1, hq⟩ := hrel
    have HM := Lib.hid hM; have HT1 := Lib.hid hT1; have HB1 := Lib.hid hB1; have Hm1 := Lib.hid hm1; have Hr1 := Lib.hid hr1; have HK1 := Lib.hid hK1; have HV1 := Lib.hid hV1; have Hq := Lib.hid hq
    clear hM hT1 hB1 hm1 hr1 hK1 hV1 hq
    rcases nil_or_snoc W with rfl | ⟨W0, ⟨i, d⟩, rfl⟩
    · obtain ⟨p7, c7, rfl⟩ := own_slice HM.out.row
      go_wp2
      go_end0
      exact ⟨s1, ov1, gv1, rfl, HM.out.fm, HT1.out, HB1.out, Hm1.out, Hr1.out, HK1.out⟩
    · obtain ⟨g, cap, rfl, hcap, hg, z1, z2, z3⟩ := HM.out.top
      obtain ⟨hil, hio, hdl⟩ := HT1.out.wop _ _ _ (last_at W0 (i, d))
      have hwl : W0.length ≤ 100000 := by have h1 := HT1.out.wlen; have h2 := HB1.out.b; have h3 := Hne.out; simp at h1; omega
      obtain ⟨⟨q0, q1, q2⟩, ⟨q3, q4, q5⟩, q6⟩ := cells6 HM.out.fm.blk
      have y1 := one_cell HM.out.vb
      obtain ⟨a, o, qr, cr, hp, ha, hqr, hcell, hrc⟩ := HV1.out.gs.row hil
      rw [hp] at q0
      have zr := hcell wr HV1.out.b0
      have Hrc := Lib.hid (hrc wr HV1.out.b0)
      have hil2 : i < c.n := by rw [Hne.out]; exact hil
      have Hio := Lib.hid hio; have Hz3 := Lib.hid z3; have Hp := Lib.hid hp
      have hLl : E[i].length ≤ 100000 := HV1.out.sm.row i hil
      have Hge := Lib.hid (show E.getD i [] = E[i] from getD_at hil)
      rw [Hge.out] at hdl
      have Hwf := Lib.hid (HV1.out.sm.wf _ (List.getElem_mem hil))
      generalize E[i] = L at *
      clear hcell hrc q1 q2 q3 q4 q5 q6 hio z3 hp
      go_upto_region 6 with fail
      by_cases hlt : d < L.length
      · have dl : decide (d < L.length) = true := by simpa using hlt
        obtain ⟨a2, o2, rfl, ha2, z4⟩ := Hrc.out.at hlt
        have Hst := Lib.hid (HM.out.setNext H.out.sz (d + 1) (y := (d : Int) + 1) (by omega))
        have zf := Hz3.out (W0.length * 2 + 1)
        go_upto_region 8 with (first
          | ((with_reducible refine Lex.at_region ?_); with_reducible refine Lex.wp_region_lex (by kernel_rfl) (by decide +kernel) ?_)
          | ((with_reducible refine Lex.at_fin ?_); with_reducible refine Lex.fin_on (by kernel_rfl) ?_))
        go_upto_region 10 with fail
        have M5 := Lib.hid Hst.out.1.drew.drew
        have K5 := Lib.hid ((HK1.out.then_new (show w.heap.size ≤ g by omega) (by have := HH.out; omega) Hst.out.2).drew.drew)
        have Hed := Lib.hid (show (E.getD i [])[d]? = some L[d] from by rw [Hge.out]; exact List.getElem?_eq_getElem hlt)
        have hwfx := Hwf.out _ (List.getElem_mem hlt)
        have Hd' := Lib.hid (show d < (E.getD i []).length from by rw [Hge.out]; exact hlt)
        generalize (wr.setCell ⟨g, W0.length * 2 + 1, none⟩ (.int .i64 ((d : Int) + 1))).drew.drew = w5 at *
        generalize L[d] = x at *
        have V5 := Lib.hid (HV.out.next K5.out.below)
        have hs5 := K5.out.below.size
        clear z1 z2 zf y1 q0 z4 zr Hst
        obtain ⟨⟨q0, q1, q2⟩, ⟨q3, q4, q5⟩, q6⟩ := cells6 M5.out.fm.blk
        have y1 := one_cell M5.out.vb
        rw [Hp.out] at q0
        clear q6 q4 q5
        have Hnode := Lib.hid (node_any (some ⟨a, o, none⟩) c.n c.cp x)
        by_cases hno : nodeB c.n x = true
        · obtain ⟨hx0, hxn⟩ := nodeB_iff.1 hno
          obtain ⟨j, rfl⟩ : ∃ j : Nat, x = (j : Int) := ⟨x.toNat, by omega⟩
          have hjn : j < c.n := by omega
          have HjE := Lib.hid (show j < E.length from by rw [← Hne.out]; exact hjn)
          have r1 := M5.out.fm.of.cell hjn
          rw [hno] at Hnode
          have Hno := Lib.hid hno
          clear hno hx0 hxn
          by_cases hof : 0 ≤ s1.of j
          · have d1 : decide (0 ≤ s1.of j) = true := by simpa using hof
            have hT2 := HT1.out.advance (last_at W0 (i, d)) Hd'.out (fun j' hj' hjn' => by
              rw [Hed.out] at hj'
              have hj2 : j = j' := by have := Option.some.inj hj'; omega
              subst hj2
              refine ⟨fun h => ?_, fun h => by omega⟩
              have := HT1.out.unv j hjn' h; omega)
            rw [set_last] at hT2
            have HT2 := Lib.hid hT2
            have Hlf := Lib.hid (left_advance (s := s1) (W := W0) Hd'.out)
            clear hof hT2 q1 q2
            go_wp2_with (go_at_call 23; refine (Hnode.out _).mono ?_; rintro e w6 ⟨rfl, rfl⟩)
            go_roundg (s1.left E (W0 ++ [(i, d + 1)]))
            case rel => exact ⟨s1, _, ov1, gv1, M5.out, HT2.out, HB1.out, Hm1.out, Hr1.out, K5.out, V5.out, Nat.le_refl _⟩
            case measure => exact Nat.lt_of_lt_of_le Hlf.out Hq.out
          · have d1 : decide (0 ≤ s1.of j) = false := by simpa using hof
            have Hof := Lib.hid (show s1.of j = -1 from (HT1.out.gi.ofr j HjE.out).elim id fun h => absurd h.1 hof)
            have r2 := M5.out.fm.num.cell hjn
            unfold nI at r2
            clear hof
            by_cases hnz : s1.num j = 0
            · have d2 : decide (0 < s1.num j) = false := by simp [hnz]
              have hcn : s1.cnt ≤ 1000000 := by have := HB1.out.b; have := Hne.out; omega
              have hop : s1.op.length ≤ 1000000 := by have := HB1.out.a; omega
              have Hcb2 := Lib.hid (begin_any c s1 ov1 gv1 w.heap.size (w.heap.size + 1) j w5 M5.out.fm M5.out.vb M5.out.vc hjn hcn hop)
              have hpk : ∀ k i' d' : Nat, (W0 ++ [(i, d)])[k]? = some (i', d') → Pth E i' j := fun k i' d' hk => by
                obtain ⟨g1, g2, g3⟩ := HT1.out.wop _ _ _ hk
                have hle : s1.num i' ≤ s1.num i := by
                  rcases last_get hk with hk' | ⟨_, rfl, _⟩
                  · have := HT1.out.wst _ _ _ _ _ _ hk (last_at W0 (i, d)) (get_lt hk'); omega
                  · exact Nat.le_refl _
                exact (HT1.out.c1 _ _ _ hk i hil Hio.out hle).step (List.mem_of_getElem? Hed.out) HjE.out
              have hT1 := HT1.out.push HjE.out hnz hpk
              have hji : i ≠ j := fun e => by subst e; exact Hio.out.1 hnz
              have hT2 := hT1.advance (snoc_old (x := (j, 0)) (last_at W0 (i, d))) Hd'.out (fun j' hj' hjn' => by
                rw [Hed.out] at hj'
                have hj2 : j = j' := by have := Option.some.inj hj'; omega
                subst hj2
                have n1 : (s1.begin' j).num j = s1.cnt + 1 := upN_at _ _ _
                have n2 : (s1.begin' j).low i = s1.low i := upN_ne hji
                refine ⟨by rw [n1]; omega, fun _ => ?_⟩
                rw [n1, n2]
                have g1 := (HT1.out.e1 _ _ _ (last_at W0 (i, d))).1
                have g2 := HT1.out.nle i hil
                omega)
              rw [set_last2] at hT2
              have HT2 := Lib.hid hT2
              have Hlf : Hid _ := Lib.hid (show (s1.begin' j).left E (W0 ++ [(i, d + 1)] ++ [(j, 0)]) < s1.left E (W0 ++ [(i, d)]) from Nat.lt_trans (left_push HjE.out hnz) (left_advance Hd'.out))
              have HTB := Lib.hid (HB1.out.begin' HjE.out hnz)
              have Hmb := Lib.hid (show ∀ v, s.num v ≠ 0 → (s1.begin' j).num v ≠ 0 from fun v hv => begin_mono (Hm1.out v hv))
              have Hrb := Lib.hid (show (s1.begin' j).num root ≠ 0 from begin_mono Hr1.out)
              have hwb : W0.length + 1 + 1 ≤ 67108864 := by omega
              have HgB := Lib.hid (show w.heap.size ≤ g by omega)
              clear hnz hcn hop hpk hT1 hT2 hji q1 q2
              obtain ⟨⟨-, q1, -⟩, -, -⟩ := cells6 M5.out.fm.blk
              go_wp2_with (first
                | (go_at_call 23; refine (Hnode.out _).mono ?_; rintro e w6 ⟨rfl, rfl⟩)
                | (go_at_call 41; refine Hcb2.out.mono ?_; rintro e w6 ⟨ov6, rfl, h1, h2⟩; have M6 := Lib.hid (M5.out.step h1 h2 H.out.sz); have K6 := Lib.hid h2; have Hrd := Lib.hid (M6.out.ready j); clear h1 h2)
                | (at_builtin; go_loud (refine wpList_append_ownrc rfl (.tmp 62) (.tmp 66) 72 rfl 70 (by kernel_rfl) step_info rfl (by decide) (by decide) (w.heap.size + 2) _ (some ⟨w6.heap.size, 0, none⟩) (W0.length + 1) 1 1 (stc (W0 ++ [(i, d + 1)])) [.int .i64 j, .int .i64 0] Hrd.out.1 (.slice (some ⟨g, 0, none⟩) (W0.length + 1) cap) rfl rfl (by have := Hrd.out.2.1; rwa [List.length_append, List.length_singleton] at this) Hrd.out.2.2 (by simp [Value.oneCell']) hwb ?_); intro v7 w7 ho7 hf7; have HO7 := Lib.hid ho7; have Hf7 := Lib.hid hf7; clear ho7 hf7))
              go_roundg ((s1.begin' j).left E (W0 ++ [(i, d + 1)] ++ [(j, 0)]))
              case rel =>
                have hM7 := M6.out.push H.out.sz rfl Hf7.out (by rw [List.length_append, List.length_singleton]; exact HO7.out)
                have b7 : Below w6.heap.size w6 (w6.alloc (.cells #[.int .i64 j, .int .i64 0] 70)) := (Below.refl _ _).alloc (Nat.le_refl _) _
                have hk7 := ((K5.out.trans K6.out).then_below b7 (by have := K6.out.below.size; have := HH.out; omega)).then_fr Hf7.out (fun g' hg' => by cases hg'; exact HgB.out) HH.out
                exact ⟨s1.begin' j, _, ov6, gv1, hM7, HT2.out, HTB.out, Hmb.out, Hrb.out, hk7, HV.out.next hk7.below, Nat.le_refl _⟩
              case measure => exact Nat.lt_of_lt_of_le Hlf.out Hq.out
            · have d2 : decide (0 < s1.num j) = true := by simp; omega
              have r3 := M5.out.fm.low.cell hil2
              have r4 := M5.out.fm.low.free i
              unfold nI at r3
              have hpij : Pth E i j := (Pth.refl hil).step (by
                have := Hed.out
                exact List.mem_of_getElem? this) HjE.out
              have hT1 := HT1.out.lower (last_at W0 (i, d)) HjE.out ⟨hnz, Hof.out⟩ hpij
              have hT2 := hT1.advance (last_at W0 (i, d)) Hd'.out (fun j' hj' hjn' => by
                rw [Hed.out] at hj'
                have hj2 : j = j' := by have := Option.some.inj hj'; omega
                subst hj2
                refine ⟨hnz, fun _ => ?_⟩
                show upN s1.low i (min (s1.low i) (s1.num j)) i ≤ s1.num j
                rw [upN_at]; omega)
              rw [set_last] at hT2
              have HT2 := Lib.hid hT2
              have Hlf := Lib.hid (left_advance (s := s1) (W := W0) Hd'.out)
              clear hnz hpij hT1 hT2
              go_wp2_with (first
                | ((with_reducible refine Lex.at_region ?_); with_reducible refine Lex.wp_region_lex (by kernel_rfl) (by decide +kernel) ?_)
                | ((with_reducible refine Lex.at_fin ?_); with_reducible refine Lex.fin_on (by kernel_rfl) ?_)
                | (go_at_call 23; refine (Hnode.out _).mono ?_; rintro e w6 ⟨rfl, rfl⟩))
              go_roundg (s1.left E (W0 ++ [(i, d + 1)]))
              case rel =>
                have hset := M5.out.fm.setLow' hil2 (min (s1.low i) (s1.num j)) (y := min (s1.low i : Int) (s1.num j : Int)) (by omega)
                have hk := KP.of_tch M5.out.fm.ok.rlb.1 hset.2 (.inr (by obtain ⟨tc, h⟩ := M5.out.fm.low.ty; exact ⟨tc, 3, h, .inl rfl⟩))
                exact ⟨s1.lower i (min (s1.low i) (s1.num j)), _, ov1, gv1, (M5.out.step hset.1 hk H.out.sz).drew, HT2.out, HB1.out.lower _ _, Hm1.out, Hr1.out, (K5.out.trans hk).drew, V5.out.next hk.drew.below, Nat.le_refl _⟩
              case measure => exact Nat.lt_of_lt_of_le Hlf.out Hq.out
        · have hno' : nodeB c.n x = false := by simpa using hno
          rw [hno'] at Hnode
          have hT2 := HT1.out.advance (last_at W0 (i, d)) Hd'.out (fun j hj hjn => by
            rw [Hed.out] at hj
            have hj2 : x = (j : Int) := Option.some.inj hj
            rw [hj2, nodeB_nat, Hne.out] at hno'
            simp at hno'; omega)
          rw [set_last] at hT2
          have HT2 := Lib.hid hT2
          have Hlf := Lib.hid (left_advance (s := s1) (W := W0) Hd'.out)
          clear hno hno' hT2
          go_wp2_with (go_at_call 23; refine (Hnode.out _).mono ?_; rintro e w6 ⟨rfl, rfl⟩)
          go_roundg (s1.left E (W0 ++ [(i, d + 1)]))
          case rel => exact ⟨s1, _, ov1, gv1, M5.out, HT2.out, HB1.out, Hm1.out, Hr1.out, K5.out, V5.out, Nat.le_refl _⟩
          case measure => exact Nat.lt_of_lt_of_le Hlf.out Hq.out
      · have hdL : d = L.length := by omega
        have dl : decide (d < L.length) = false := by simp; omega
        have HdE := Lib.hid (show d = (E.getD i []).length from by rw [Hge.out]; exact hdL)
        obtain ⟨⟨-, q1, q2⟩, -, -⟩ := cells6 HM.out.fm.blk
        have r1 := HM.out.fm.num.cell hil2
        have r2 := HM.out.fm.low.cell hil2
        unfold nI at r1 r2
        have hle1 := (HT1.out.e1 _ _ _ (last_at W0 (i, d))).1
        have M5 := Lib.hid HM.out.drew.drew
        have K5 := Lib.hid HK1.out.drew.drew
        clear hdL
        by_cases hlow : s1.low i = s1.num i
        · have d1 : ((s1.low i : Int) == (s1.num i : Int)) = true := by simp [hlow]
          have d1' : (s1.low i == s1.num i) = true := by simp [hlow]
          have Hlow := Lib.hid hlow
          have hmem : (i : Int) ∈ s1.op := (HT1.out.opm _).2 ⟨i, hil, rfl, Hio.out⟩
          obtain ⟨k, hk⟩ := mem_get hmem
          have hkl : k < s1.op.length := by
            rcases Nat.lt_or_ge k s1.op.length with h' | h'
            · exact h'
            · rw [List.getElem?_eq_none h'] at hk; cases hk
          have hki : s1.op[k] = (i : Int) := by rw [List.getElem?_eq_getElem hkl] at hk; exact Option.some.inj hk
          have hdist : ∀ j, j < k → s1.op.getD j 0 ≠ (i : Int) := fun j hj e => by
            have h1 := List.pairwise_iff_getElem.1 HT1.out.ops j k (by omega) hkl hj
            rw [hki] at h1
            have h2 : s1.op[j] = (i : Int) := by simpa [show j < s1.op.length by omega] using e
            rw [h2] at h1; omega
          have hmm : ∀ x ∈ s1.op, ∃ m : Nat, m < c.n ∧ x = (m : Int) := fun x hx => by
            obtain ⟨m, h1, h2, _⟩ := (HT1.out.opm x).1 hx
            exact ⟨m, by rw [Hne.out]; exact h1, h2⟩
          have hopb : s1.op.length ≤ 100000 := by have := HB1.out.a; have := HB1.out.b; have := Hne.out; omega
          have hgrb : s1.gr.length ≤ 100000 := by have := HB1.out.a; have := HB1.out.b; have := Hne.out; omega
          have hnd : s1.op.Nodup := HT1.out.ops.imp fun {x y} h => fun e => by subst e; omega
          have hGp : (srtI (s1.op.drop k)).Pairwise (· < ·) := by
            have h1 := srtI_pair (s1.op.drop k)
            have h2 : (srtI (s1.op.drop k)).Nodup := (List.mergeSort_perm _ _).nodup_iff.2 (hnd.sublist (List.drop_sublist k s1.op))
            exact (h1.and h2).imp fun {x y} h => by have := h.1; have := h.2; omega
          have HT5 := Lib.hid (HT1.out.close HdE.out hlow hk (srtI_mem _) hGp)
          have HB5 := Lib.hid (HB1.out.close hkl (srtI (s1.op.drop k)))
          go_upto_region 14 with (first
            | ((with_reducible refine Lex.at_region ?_); with_reducible refine Lex.wp_region_lex (by kernel_rfl) (by decide +kernel) ?_)
            | ((with_reducible refine Lex.at_fin ?_); with_reducible refine Lex.fin_on (by kernel_rfl) ?_))
          have Hcc := Lib.hid (close_any c s1 ov1 gv1 i k wr.drew.drew M5.out.fm hk hdist hmm hopb hgrb)
          generalize wr.drew.drew = w5 at *
          clear hk hki hdist hmm hnd hGp hmem hopb hgrb hlow hkl q1 q2 r1 r2 q0 z1 z2 zr
          obtain ⟨-, ⟨-, -, -⟩, -⟩ := cells6 M5.out.fm.blk
          have y5 := one_cell M5.out.vb
          go_upto_region 15 with (go_at_call 42; refine Hcc.out.mono ?_; rintro e w7 ⟨ov7, gv7, rfl, h1, h2⟩; have M7 := Lib.hid (M5.out.step h1 h2 H.out.sz); have K7 := Lib.hid (K5.out.trans h2); clear h1 h2)
          have hlowup : ∀ up du, W0[W0.length - 1]? = some (up, du) → s1.low up ≤ s1.low i := fun up du hup => by
            have g1 := (HT1.out.e1 _ _ _ (snoc_old (x := (i, d)) hup)).1
            have g2 := HT1.out.wst _ _ _ _ _ _ (snoc_old (x := (i, d)) hup) (last_at W0 (i, d)) (get_lt hup)
            have := Hlow.out; omega
          have Hlu := Lib.hid hlowup
          clear hlowup y5 y1
          rcases nil_or_snoc W0 with hW | ⟨W1, ⟨up, du⟩, hW⟩
          · have hW0 : W0.length = 0 := by rw [hW]; rfl
            have HW := Lib.hid hW
            have P7 := Lib.hid (show VM c w.heap.size (s1.close k (srtI (s1.op.drop k))) [] ov7 gv7 (.slice (some ⟨g, 0, none⟩) 0 cap) w7 from by have h1 := M7.out.pop; rw [hW0] at h1; rw [HW.out] at h1; exact h1)
            rw [hW0]
            rw [hW0] at hcap
            clear hW
            go_wp2
            go_roundg ((s1.close k (srtI (s1.op.drop k))).left E W0)
            case rel => exact ⟨s1.close k (srtI (s1.op.drop k)), [], ov7, gv7, P7.out, by rw [← HW.out]; exact HT5.out, HB5.out, Hm1.out, Hr1.out, K7.out, HV.out.next K7.out.below, by rw [HW.out]; exact Nat.le_refl _⟩
            case measure => exact Nat.lt_of_lt_of_le (show (s1.close k (srtI (s1.op.drop k))).left E W0 < s1.left E (W0 ++ [(i, d)]) from left_pop) Hq.out
          · have hW0 : W0.length = W1.length + 1 := by rw [hW]; simp
            have HW := Lib.hid hW
            have hmin : min (s1.low up) (s1.low i) = s1.low up := by
              have := Hlu.out up du (by rw [hW]; simp)
              omega
            have Hmin := Lib.hid hmin
            rw [hW0]
            rw [hW0] at hcap hwl
            clear hW hmin
            have hup := HW.out ▸ last_at W1 (up, du)
            have PM := Lib.hid (show VM c w.heap.size (s1.close k (srtI (s1.op.drop k))) (W1 ++ [(up, du)]) ov7 gv7 (.slice (some ⟨g, 0, none⟩) (W1.length + 1) cap) _ from by have h1 := M7.out.pop; rw [hW0] at h1; rw [HW.out] at h1; exact h1)
            obtain ⟨g', cap', he, -, -, x1, x2, -⟩ := PM.out.top
            obtain ⟨rfl, rfl⟩ : g = g' ∧ cap = cap' := by simpa using he
            have hupl : up < c.n := by rw [Hne.out]; exact (HT1.out.wop W1.length up du (snoc_old (by rw [HW.out]; exact last_at W1 (up, du)))).1
            have r5 := M7.out.fm.low.cell hupl
            have r6 := M7.out.fm.low.cell hil2
            have r7 := M7.out.fm.low.free up
            unfold nI at r5 r6
            obtain ⟨⟨-, -, u2⟩, -, -⟩ := cells6 M7.out.fm.blk
            have u1 := one_cell M7.out.vb
            clear x2 hup
            go_wp2_with (first
              | ((with_reducible refine Lex.at_region ?_); with_reducible refine Lex.wp_region_lex (by kernel_rfl) (by decide +kernel) ?_)
              | ((with_reducible refine Lex.at_fin ?_); with_reducible refine Lex.fin_on (by kernel_rfl) ?_))
            go_roundg ((s1.close k (srtI (s1.op.drop k))).left E W0)
            case rel =>
              have hset := M7.out.fm.setLow' hupl (min ((s1.close k (srtI (s1.op.drop k))).low up) ((s1.close k (srtI (s1.op.drop k))).low i)) (y := min ((s1.close k (srtI (s1.op.drop k))).low up : Int) ((s1.close k (srtI (s1.op.drop k))).low i : Int)) (by omega)
              have hk := KP.of_tch M7.out.fm.ok.rlb.1 hset.2 (.inr (by obtain ⟨tc, h⟩ := M7.out.fm.low.ty; exact ⟨tc, 3, h, .inl rfl⟩))
              exact ⟨((s1.close k (srtI (s1.op.drop k)))).lower up (min ((s1.close k (srtI (s1.op.drop k))).low up) ((s1.close k (srtI (s1.op.drop k))).low i)), W1 ++ [(up, du)], ov7, gv7, (PM.out.step hset.1 hk H.out.sz).drew, (by have h1 := HT5.out; rw [HW.out] at h1; show TI E ((s1.close k (srtI (s1.op.drop k))).lower up (min (s1.low up) (s1.low i))) _; rw [Hmin.out]; have h2 := lower_self (s1.close k (srtI (s1.op.drop k))) up; exact h2.symm ▸ h1), HB5.out.lower _ _, Hm1.out, Hr1.out, (K7.out.trans hk).drew, HV.out.next (K7.out.trans hk).drew.below, by rw [HW.out]; exact Nat.le_refl _⟩
            case measure => exact Nat.lt_of_lt_of_le (show (s1.close k (srtI (s1.op.drop k))).left E W0 < s1.left E (W0 ++ [(i, d)]) from left_pop) Hq.out
        · have d1 : ((s1.low i : Int) == (s1.num i : Int)) = false := by rw [beq_eq_false_iff_ne]; omega
          have d1' : (s1.low i == s1.num i) = false := by rw [beq_eq_false_iff_ne]; exact hlow
          obtain ⟨W1, up, du, hW, hTP⟩ := HT1.out.pop HdE.out (by omega)
          have HTP := Lib.hid hTP
          have HW := Lib.hid hW
          have HW0 := Lib.hid (show W0.length = W1.length + 1 by rw [hW]; simp)
          clear hW hTP
          go_upto_region 15 with (first
            | ((with_reducible refine Lex.at_region ?_); with_reducible refine Lex.wp_region_lex (by kernel_rfl) (by decide +kernel) ?_)
            | ((with_reducible refine Lex.at_fin ?_); with_reducible refine Lex.fin_on (by kernel_rfl) ?_))
          have hW0 := HW0.out
          rw [hW0]
          rw [hW0] at hcap hwl
          clear hlow hle1 q1 q2 r1 r2 q0 z1 z2 zr y1 d1 d1'
          generalize wr.drew.drew = w5 at *
          have hup := HW.out ▸ last_at W1 (up, du)
          have PM := Lib.hid (show VM c w.heap.size s1 (W1 ++ [(up, du)]) ov1 gv1 (.slice (some ⟨g, 0, none⟩) (W1.length + 1) cap) _ from by have h1 := M5.out.pop; rw [hW0] at h1; rw [HW.out] at h1; exact h1)
          obtain ⟨g', cap', he, -, -, x1, x2, -⟩ := PM.out.top
          obtain ⟨rfl, rfl⟩ : g = g' ∧ cap = cap' := by simpa using he
          have hupl : up < c.n := by rw [Hne.out]; exact (HT1.out.wop W1.length up du (snoc_old (by rw [HW.out]; exact last_at W1 (up, du)))).1
          have r5 := M5.out.fm.low.cell hupl
          have r6 := M5.out.fm.low.cell hil2
          have r7 := M5.out.fm.low.free up
          unfold nI at r5 r6
          obtain ⟨⟨-, -, u2⟩, -, -⟩ := cells6 M5.out.fm.blk
          have u1 := one_cell M5.out.vb
          clear x2 hup
          go_wp2_with (first
            | ((with_reducible refine Lex.at_region ?_); with_reducible refine Lex.wp_region_lex (by kernel_rfl) (by decide +kernel) ?_)
            | ((with_reducible refine Lex.at_fin ?_); with_reducible refine Lex.fin_on (by kernel_rfl) ?_))
          go_roundg (s1.left E W0)
          case rel =>
            have hset := M5.out.fm.setLow' hupl (min (s1.low up) (s1.low i)) (y := min (s1.low up : Int) (s1.low i : Int)) (by omega)
            have hk := KP.of_tch M5.out.fm.ok.rlb.1 hset.2 (.inr (by obtain ⟨tc, h⟩ := M5.out.fm.low.ty; exact ⟨tc, 3, h, .inl rfl⟩))
            exact ⟨(s1).lower up (min (s1.low up) (s1.low i)), W1 ++ [(up, du)], ov1, gv1, (PM.out.step hset.1 hk H.out.sz).drew, (by rw [← HW.out]; exact HTP.out), HB1.out.lower _ _, Hm1.out, Hr1.out, (K5.out.trans hk).drew, HV.out.next (K5.out.trans hk).drew.below, by rw [HW.out]; exact Nat.le_refl _⟩
          case measure => exact Nat.lt_of_lt_of_le (show s1.left E W0 < s1.left E (W0 ++ [(i, d)]) from left_pop) Hq.out
end Go.Proofs.Yteejlibiidiibaa
