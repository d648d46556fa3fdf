/-
  Walks: Components.
-/
import Derived.Test.YteejlibiidiibaaU4

namespace Go.Proofs.Yteejlibiidiibaa
open Go.RowKit
set_option maxRecDepth 100000
theorem nI_miss (P : List (Nat × Nat)) (p : Nat × Nat) (m : Nat) : nI (missP (P ++ [p])) m = if m = p.1 then nI (missP P) p.1 + 1 else nI (missP P) m := by
  unfold nI
  rw [missP_snoc]
  by_cases e : m = p.1
  · subst e; rw [if_pos rfl, if_pos rfl]; omega
  · rw [if_neg e, if_neg e]
/-- What the first loops keep. -/
structure CU (E : Gr) (of : Nat → Int) (P : List (Nat × Nat)) (mb G : Nat) (w3 w : World) : Prop where
  m : IT w mb G (nI (missP P))
  u : UT w (mb + 1) G (mb + 2) (usrP P)
  f : FX mb (mb + 1) (mb + 2) w3 w
  len : P.length ≤ 20000000
theorem CU.drew {E : Gr} {of : Nat → Int} {P : List (Nat × Nat)} {mb G : Nat} {w3 w : World} (h : CU E of P mb G w3 w) : CU E of P mb G w3 w.drew := ⟨h.m.at rfl, h.u.drew, h.f.drew, h.len⟩
/-- KR, and what comes out is new. -/
def KN (E : Gr) (w : World) (e : Ending) (w' : World) : Prop := ∃ out p c, e = .returned (.slice p out.length c) ∧ GS w' p out.length out ∧ Topo E out ∧ (∀ i, i < E.length → inn out i) ∧ Below w.heap.size w w' ∧ NG w.heap.size w' p out.length
theorem NRow.mono {B B' : Nat} {v : Value} (h : NRow B v) (hb : B' ≤ B) : NRow B' v := fun p n c e => Nat.le_trans hb (h p n c e)
/-- A store into an elder block leaves new rows of rows. -/
theorem GS.keepN {w w' : World} {p : Option Addr} {n B b : Nat} {E : Gr} {o : Obj} (h : GS w p n E) (hn : NG B w p n) (hu : Upd b o w w') (hb : b < B) : GS w' p n E := by
  refine ⟨h.len, fun k hk => ?_⟩
  obtain ⟨a, o1, v, h1, h2, h3, h4⟩ := h.at' k hk
  obtain ⟨hB, hr⟩ := hn k (by rw [h.len]; exact hk) a o1 v h1 h3
  have hs := hu.size
  refine ⟨a, o1, v, h1, by omega, (cell_at (hu.other a (by omega))).trans h3, ?_⟩
  obtain ⟨p2, c2, e2, h5, h6⟩ := h4
  refine ⟨p2, c2, e2, h5, h6.fr (by omega) fun a2 o2 ha2 _ => hu.other a2 ?_⟩
  have := hr ⟨a2, o2, none⟩ _ c2 (by rw [e2, ha2])
  dsimp only at this
  omega
set_option maxHeartbeats 32000000 in
theorem comps_new (w : World) (p : Option Addr) (n c : Nat) (E : Gr) (h : GS w p n E) (hs : SmallG E) (hn : n ≤ 1000) (hrow : ∀ l ∈ E, l.length ≤ 1000) :
    Calls Try.prog 11 #[.slice p n c] w (KN E w) := by
  have Hn := Lib.hid h.len
  have H := Lib.hid h; have HS := Lib.hid hs; have Hrow := Lib.hid hrow
  have Hfind := Lib.hid (find_any w p n c E h hs)
  clear h hs hrow
  go_enter Try.func11, Try.ntmps11
  go_upto_region 2 with (go_at_call 22; refine Hfind.out.mono ?_; rintro e w1 ⟨s, gv, ob, rfl, hfd, hob, hb1⟩; obtain ⟨pg, cg, rfl, hgs⟩ := hfd.grs; have Hfd := Lib.hid hfd; have Hob := Lib.hid hob; have Hb1 := Lib.hid hb1; have Hgs := Lib.hid hgs; clear hfd hob hb1 hgs)
  have hGn : s.gr.length ≤ 1000 := by have := Hfd.out.grl; have := Hn.out; omega
  have HGA := Lib.hid (show GA E s.of s.gr from ⟨Hfd.out.gi, Hfd.out.all⟩)
  have Hof := Lib.hid Hfd.out.of
  have hobl := Hfd.out.of.lt
  have Hnew := Lib.hid (show NG w.heap.size w1 pg s.gr.length from fun k hk a o u hp hu => by
    obtain ⟨h1, h2⟩ := Hfd.out.new _ _ _ rfl k hk a o u hp hu
    exact ⟨Nat.le_trans Hob.out h1, h2.mono Hob.out⟩)
  generalize s.of = of at *
  generalize s.gr = gr at *
  generalize hG : gr.length = G at *
  have HG := Lib.hid hG; clear hG
  have hmk1 := run_make_int G (by omega)
  have hmk2 := run_make_rows G (by omega)
  have hb2 := (Below.refl w1.heap.size w1).alloc (Nat.le_refl _) (.cells (madeCells #[.int .i64 0] G) 3)
  have hs2 : (w1.alloc (.cells (madeCells #[.int .i64 0] G) 3)).heap.size = w1.heap.size + 1 := by simp
  have I2 := Lib.hid (IT.made w1 G)
  go_upto_region 3 with fail
  generalize w1.alloc (.cells (madeCells #[.int .i64 0] G) 3) = w2 at *
  have hb3 := (Below.refl w2.heap.size w2).alloc (Nat.le_refl _) (.cells (madeCells #[.slice none 0 0] G) 22)
  have hs3 : (w2.alloc (.cells (madeCells #[.slice none 0 0] G) 22)).heap.size = w2.heap.size + 1 := by simp
  have U3 := Lib.hid (UT.made (w := w2) G)
  rw [hs2] at hs3 hb3 U3
  go_upto_region 4 with fail
  generalize w2.alloc (.cells (madeCells #[.slice none 0 0] G) 22) = w3 at *
  have Hb2 := Lib.hid hb2; have Hb3 := Lib.hid hb3; have Hs2 := Lib.hid hs2; have Hs3 := Lib.hid hs3
  have I3' := Lib.hid (I2.out.at (hb3.block _ (by omega)))
  have Hb13 := Lib.hid (show Below w1.heap.size w1 w3 from hb2.trans (hb3.mono (by omega)))
  clear hb2 hb3 hs2 hs3 hmk1 hmk2
  go_wp2
  go_loopw [31] (fun a wr => ∃ i : Nat, a = .int .i64 i ∧ i ≤ n ∧ CU E of (prs E of i) w1.heap.size G w3 wr ∧ (prs E of i).length ≤ i * 1000) (fun a _ => n - (intOf a).toNat)
  case atStart => exact ⟨0, rfl, by omega, ⟨I3'.out.congr fun m _ => by simp [nI, missP, prs], by rw [show usrP (prs E of 0) = fun _ => [] from by funext g; simp [usrP, prs]]; exact U3.out, FX.refl _ _ _ _, by simp [prs]⟩, by simp [prs]⟩
  case round =>
    obtain ⟨i, rfl, hi, hC, hPl⟩ := hrel
    have HC := Lib.hid hC; have HPl := Lib.hid hPl
    clear hC hPl
    by_cases hlt : i < n
    · have hiE : i < E.length := by rw [← Hn.out]; exact hlt
      obtain ⟨a, o, q, cq, rfl, ha, hq, hcell, hrc⟩ := H.out.row (k := i) hiE
      have hLl : E[i].length ≤ 1000 := Hrow.out _ (List.getElem_mem hiE)
      have hb0r := Hb1.out.trans ((Hb13.out.trans (HC.out.f.below (Nat.le_refl _) (by omega) (by omega))).mono Hb1.out.size)
      have c0 := hcell wr hb0r
      have Hrc := Lib.hid hrc
      have Hps := Lib.hid (show prs E of (i + 1) = prs E of i ++ edgeP E of i E[i] from by rw [prs_succ, getD_at hiE])
      have Hg := Lib.hid (HGA.out.og hiE)
      have HiE := Lib.hid hiE
      generalize E[i] = L at *
      clear hrc hcell hb0r
      obtain ⟨wo, hwo⟩ : ∃ wo : World, wo = wr := ⟨_, rfl⟩
      subst hwo
      go_wp2
      go_loopw [38] (fun b wr => ∃ m : Nat, b = .int .i64 m ∧ m ≤ L.length ∧ CU E of (prs E of i ++ edgeP E of i (L.take m)) w1.heap.size G w3 wr ∧ (prs E of i ++ edgeP E of i (L.take m)).length ≤ i * 1000 + m) (fun b _ => L.length - (intOf b).toNat)
      case atStart => exact ⟨0, rfl, by omega, by simpa [edgeP] using HC.out, by simpa [edgeP] using HPl.out⟩
      case round =>
        obtain ⟨m, rfl, hm, hC2, hPl2⟩ := hrel
        have HC2 := Lib.hid hC2; have HPl2 := Lib.hid hPl2
        clear hC2 hPl2
        by_cases hlm : m < L.length
        · have hb13r := Hb13.out.trans (HC2.out.f.below (L := w1.heap.size) (Nat.le_refl _) (by omega) (by omega))
          have hb0r := Hb1.out.trans (hb13r.mono Hb1.out.size)
          obtain ⟨a2, o2, rfl, ha2, z0⟩ := (Hrc.out wr hb0r).at hlm
          have Hes := Lib.hid (show edgeP E of i (L.take (m + 1)) = edgeP E of i (L.take m) ++ (if nodeB E.length L[m] && ((of i).toNat != (of L[m].toNat).toNat) then [((of i).toNat, (of L[m].toNat).toNat)] else []) from by rw [List.take_succ_eq_append_getElem hlm]; exact edgeP_snoc (E := E) (of := of) i (L.take m) L[m])
          generalize L[m] = x at *
          generalize hPd : prs E of i ++ edgeP E of i (L.take m) = P at *
          have HPd := Lib.hid hPd; clear hPd
          have Hnode := Lib.hid (node_any (some ⟨a, o, none⟩) n c x)
          have HIo := Lib.hid (Hof.out.below (show Below w1.heap.size w1 wr from hb13r))
          clear hb13r hb0r
          by_cases hno : nodeB n x = true
          · obtain ⟨hx0, hxn⟩ := nodeB_iff.1 hno
            obtain ⟨j, rfl⟩ : ∃ j : Nat, x = (j : Int) := ⟨x.toNat, by omega⟩
            have hjE : j < E.length := by rw [← Hn.out]; omega
            have hgj := HGA.out.og hjE
            rw [hno] at Hnode
            have ri := HIo.out.cell HiE.out
            have rj := HIo.out.cell hjE
            rw [Hg.out.1] at ri
            rw [hgj.1] at rj
            have hno2 : nodeB E.length (j : Int) = true := by rw [← Hn.out]; exact hno
            rw [hno2, Bool.true_and, Int.toNat_natCast] at Hes
            have hgiG : (of i).toNat < G := by rw [← HG.out]; exact Hg.out.2
            have hgjG : (of j).toNat < G := by rw [← HG.out]; exact hgj.2
            rw [← Hn.out] at hjE
            have HIo2 := Lib.hid (show wr.cell? ⟨ob, i, none⟩ = some (.int .i64 ((of i).toNat : Int)) ∧ wr.cell? ⟨ob, j, none⟩ = some (.int .i64 ((of j).toNat : Int)) from ⟨ri, rj⟩)
            have Hgj := Lib.hid hgj
            generalize (of i).toNat = gi at *
            generalize (of j).toNat = gj at *
            clear hno hx0 hxn hno2 hgj
            by_cases hgg : gi = gj
            · have d0 : ((gi : Int) != (gj : Int)) = false := by simp [hgg]
              have d0' : (gi != gj) = false := by simp [hgg]
              have HesF := Lib.hid (show prs E of i ++ edgeP E of i (L.take (m + 1)) = P from by rw [Hes.out, d0']; simpa using HPd.out)
              clear hgg
              go_wp2_with (first
                | ((with_reducible refine Lex.at_region ?_); with_reducible refine Lex.wp_region_lex (by kernel_rfl) (by decide +kernel) ?_)
                | ((with_reducible refine Lex.at_fin ?_); with_reducible refine Lex.fin_on (by kernel_rfl) ?_)
                | (go_at_call 23; refine (Hnode.out _).mono ?_; rintro e w6 ⟨rfl, rfl⟩))
              exact ⟨⟨m + 1, by go_num, by omega, by rw [HesF.out]; exact HC2.out.drew, by rw [HesF.out]; have := HPl2.out; omega⟩, by simp [intOf]; omega⟩
            · have d0 : ((gi : Int) != (gj : Int)) = true := by simp; omega
              have d0' : (gi != gj) = true := by simp [hgg]
              have HesF := Lib.hid (show prs E of i ++ edgeP E of i (L.take (m + 1)) = P ++ [(gi, gj)] from by rw [Hes.out, d0', ← HPd.out]; simp)
              have mc := HC2.out.m.cell hgiG
              have mf := HC2.out.m.free gi
              unfold nI at mc
              have Hmset := Lib.hid (HC2.out.m.set hgiG ((missP P gi : Int) + 1))
              have hmiss : missP P gi ≤ 20000000 := Nat.le_trans (List.countP_le_length) HC2.out.len
              clear hgg
              go_upto_region 11 with (first
                | ((with_reducible refine Lex.at_region ?_); with_reducible refine Lex.wp_region_lex (by kernel_rfl) (by decide +kernel) ?_)
                | ((with_reducible refine Lex.at_fin ?_); with_reducible refine Lex.fin_on (by kernel_rfl) ?_)
                | (go_at_call 23; refine (Hnode.out _).mono ?_; rintro e w6 ⟨rfl, rfl⟩))
              go_upto_region 12 with fail
              have U5 := Lib.hid ((HC2.out.u.other (by omega) (by omega) Hmset.out.2).drew)
              have M5 := Lib.hid (Hmset.out.1.at (w' := (wr.setCell ⟨w1.heap.size, gi, none⟩ (.int .i64 ((missP P gi : Int) + 1))).drew) rfl)
              have X5 := Lib.hid ((HC2.out.f.trans (FX.of_tch (mb := w1.heap.size) (ub := w1.heap.size + 1) (B := w1.heap.size + 2) Hmset.out.2 (.inl rfl))).drew)
              have hob5 : ∀ q, (wr.setCell ⟨w1.heap.size, gi, none⟩ (.int .i64 ((missP P gi : Int) + 1))).drew.cell? ⟨ob, q, none⟩ = wr.cell? ⟨ob, q, none⟩ := fun q => by
                obtain ⟨o, hu⟩ := Hmset.out.2
                exact cell_at (hu.other ob (by omega))
              have Zi := Lib.hid ((hob5 i).trans HIo2.out.1)
              have Zj := Lib.hid ((hob5 j).trans HIo2.out.2)
              generalize (wr.setCell ⟨w1.heap.size, gi, none⟩ (.int .i64 ((missP P gi : Int) + 1))).drew = w5 at *
              obtain ⟨v5, zu, hv5⟩ := U5.out.cell hgjG
              obtain ⟨p5, c5, hve⟩ := own_slice hv5
              subst hve
              have Zu := Lib.hid zu
              have Hv5 := Lib.hid hv5
              have zi := Zi.out
              have zj := Zj.out
              clear hob5 mc mf ri rj hv5
              have yi := Lib.hid (show w5.drew.cell? ⟨ob, i, none⟩ = _ from Zi.out)
              have yj := Lib.hid (show w5.drew.cell? ⟨ob, j, none⟩ = _ from Zj.out)
              have yu := Lib.hid (show w5.drew.cell? ⟨w1.heap.size + 1, gj, none⟩ = _ from Zu.out)
              have Ud := Lib.hid U5.out.drew
              have b6 : Below w5.drew.heap.size w5.drew (w5.drew.alloc (.cells #[.int .i64 gi] 3)) := (Below.refl _ _).alloc (Nat.le_refl _) _
              have n6 := heap_alloc_new w5.drew (.cells #[.int .i64 gi] 3)
              have Hbz := Lib.hid (show w1.heap.size + 2 ≤ (w5.drew.alloc (.cells #[.int .i64 gi] 3)).heap.size from Nat.le_trans Ud.out.sz b6.size)
              have Ho6 := Lib.hid (ownsRow_below (ownsRow_at Hv5.out (w' := w5.drew) fun _ _ => rfl) b6 (Nat.le_refl _))
              have Hrc := Lib.hid (show RC (w5.drew.alloc (.cells #[.int .i64 gi] 3)) 1 (some ⟨w5.drew.heap.size, 0, none⟩) 1 (ic [(gi : Int)]) from RC.row rfl n6 (fun j u hu => by simpa [ic] using hu))
              have Hov := Lib.hid (show ∀ g, (Value.slice p5 (usrP P gj).length c5).ownBlock = some g → ¬ (g = ob ∨ g = w1.heap.size + 1) from fun g hg e => by have := (Hv5.out.lt g hg).1; omega)
              have hul : (usrP P gj).length ≤ 20000000 := by unfold usrP; rw [List.length_map]; exact Nat.le_trans (List.length_filter_le _ _) HC2.out.len
              have hbd : (usrP P gj).length + 1 ≤ 67108864 := by omega
              clear b6 n6
              go_wp2_with (first
                | ((with_reducible refine Lex.at_finK ?_); refine LexK.finE_on (by kernel_rfl) (by repeat first | exact LexK.finL_nil | refine LexK.finL_none rfl ?_ | refine LexK.finL_skip (by decide +kernel) ?_ | refine LexK.finL_take rfl (.inl rfl) yi.out ?_ | refine LexK.finL_take rfl (.inl rfl) yj.out ?_ | refine LexK.finL_take rfl (.inr rfl) yu.out ?_) ?_)
                | ((with_reducible refine Lex.at_region ?_); refine LexK.wp_region_lexE (fun x => x = ob ∨ x = w1.heap.size + 1) (by kernel_rfl) (by decide +kernel) ?_)
                | ((with_reducible refine Lex.at_wpX ?_); with_reducible refine LexK.wpX_plain (by decide +kernel) ?_)
                | ((with_reducible refine Lex.at_wpX ?_); with_reducible refine LexK.wpX_call ?_)
                | ((with_reducible refine Lex.at_wpX ?_); with_reducible refine LexK.wpX_nil ?_)
                | ((with_reducible refine Lex.at_ext ?_); with_reducible refine LexK.ext_on (LexK.Ext.alloc _ _) ?_)
                | ((with_reducible refine Lex.at_ext ?_); refine LexK.ext_on (ext_fr hf3 (by simp) Hov.out) ?_)
                | (at_builtin; go_loud (refine wpList_append_ownrc rfl (.tmp 76) (.tmp 81) 22 rfl 3 (by kernel_rfl) int_info rfl (by decide) (by decide) (w1.heap.size + 2) _ (some ⟨w5.heap.size, 0, none⟩) (usrP P gj).length 1 1 _ (ic [(gi : Int)]) Hbz.out (.slice p5 (usrP P gj).length c5) rfl rfl Ho6.out Hrc.out (ic_one _) hbd ?_); intro v7 w7 ho7 hf3; have HU7 := Lib.hid (Ud.out.push hgjG yu.out rfl hf3 ho7); obtain ⟨p7, c7, hv7⟩ := own_slice ho7; subst hv7; obtain ⟨-, z70, -⟩ : True ∧ w7.cell? ⟨w1.heap.size + 1, gj, none⟩ = some (.slice p5 (usrP P gj).length c5) ∧ True := ⟨trivial, (cell_at HU7.out.1).trans yu.out, trivial⟩; have z71 : w7.frozen? ⟨w1.heap.size + 1, gj, none⟩ = false := (by have h1 := Ud.out.free gj; simp only [World.frozen?] at h1 ⊢; rw [HU7.out.1]; exact h1); clear ho7))
              have hPl := HPl2.out
              have hi1 : i * 1000 ≤ 1000 * 1000 := Nat.mul_le_mul_right _ (by omega)
              have hCU : CU E of (P ++ [(gi, gj)]) w1.heap.size G w3 (w7.setCell ⟨w1.heap.size + 1, gj, none⟩ (.slice p7 ((usrP P gj).length + 1) c7)) := by
                obtain ⟨g1, g2, g3, g4, g5⟩ := HU7.out
                refine ⟨?_, ?_, ?_, by simp; omega⟩
                · have h1 : IT w7 w1.heap.size G (fun m => if m = gi then (missP P gi : Int) + 1 else nI (missP P) m) := M5.out.at (g3 _ (by omega))
                  obtain ⟨o, hu⟩ := g5
                  exact (h1.at (hu.other _ (by omega))).congr fun q _ => nI_miss P (gi, gj) q
                · have e : usrP (P ++ [(gi, gj)]) = fun m => if m = gj then usrP P m ++ [(gi : Int)] else usrP P m := by funext q; exact usrP_snoc P (gi, gj) q
                  rw [e]; exact g2
                · exact (X5.out.drew.trans (FX.of_below g4)).trans (FX.of_tch g5 (.inr (.inl rfl)))
              exact ⟨⟨m + 1, by go_num, by omega, by rw [HesF.out]; exact hCU, by rw [HesF.out]; simp; omega⟩, by simp [intOf]; omega⟩
          · have hno' : nodeB n x = false := by simpa using hno
            rw [hno'] at Hnode
            have hno2 : nodeB E.length x = false := by rw [← Hn.out]; exact hno'
            rw [hno2] at Hes
            clear hno hno' hno2
            go_wp2_with (first
              | ((with_reducible refine Lex.at_region ?_); with_reducible refine Lex.wp_region_lex (by kernel_rfl) (by decide +kernel) ?_)
              | ((with_reducible refine Lex.at_fin ?_); with_reducible refine Lex.fin_on (by kernel_rfl) ?_)
              | (go_at_call 23; refine (Hnode.out _).mono ?_; rintro e w6 ⟨rfl, rfl⟩))
            have HesF : prs E of i ++ edgeP E of i (L.take (m + 1)) = P := by rw [Hes.out]; simpa using HPd.out
            exact ⟨⟨m + 1, by go_num, by omega, by rw [HesF]; exact HC2.out.drew, by rw [HesF]; have := HPl2.out; omega⟩, by simp [intOf]; omega⟩
        · have hmL : m = L.length := by omega
          have HmL := Lib.hid hmL
          have dmm : decide (m < L.length) = false := by simp; omega
          have hC2 := HC2.out
          have hPl2 := HPl2.out
          rw [hmL, List.take_length, ← Hps.out] at hC2 hPl2
          have HC3 := Lib.hid hC2; have HPl3 := Lib.hid hPl2
          clear hmL hC2 hPl2
          go_wp2
          exact ⟨⟨i + 1, by go_num, by omega, HC3.out, by have := HPl3.out; omega⟩, by simp [intOf]; omega⟩
    · have hin : i = n := by omega
      have hCP := HC.out
      rw [hin, show prs E of n = prs E of E.length from by rw [Hn.out]] at hCP
      have HCP := Lib.hid hCP
      have dnn : decide (i < n) = false := by simp; omega
      obtain ⟨wh, hwh⟩ : ∃ wh : World, wh = wr := ⟨_, rfl⟩
      subst hwh
      clear hin hCP
      go_upto_region 16 with fail
      have ha5 := (Below.refl wh.heap.size wh).alloc (Nat.le_refl _) (.cells #[] 3)
      have hn5 := heap_alloc_new wh (.cells #[] 3)
      have hs5 : (wh.alloc (.cells #[] 3)).heap.size = wh.heap.size + 1 := by simp
      generalize wh.alloc (.cells #[] 3) = w5 at *
      have ha6 := (Below.refl w5.heap.size w5).alloc (Nat.le_refl _) (.cells #[.slice (some ⟨wh.heap.size, 0, none⟩) 0 0] 42)
      have hn6 := heap_alloc_new w5 (.cells #[.slice (some ⟨wh.heap.size, 0, none⟩) 0 0] 42)
      have hs6 : (w5.alloc (.cells #[.slice (some ⟨wh.heap.size, 0, none⟩) 0 0] 42)).heap.size = w5.heap.size + 1 := by simp
      generalize w5.alloc (.cells #[.slice (some ⟨wh.heap.size, 0, none⟩) 0 0] 42) = w6 at *
      have hb56 : Below wh.heap.size wh w6 := ha5.trans (ha6.mono (by omega))
      rw [hs5] at ha6 hn6 hs6
      have HB56 := Lib.hid hb56
      have hmbB : w1.heap.size < wh.heap.size := by have := HCP.out.u.sz; omega
      have HS6 := Lib.hid (show HpS w1.heap.size G wh.heap.size (wh.heap.size + 1) wh (missP (prs E of E.length)) [] (.slice (some ⟨wh.heap.size, 0, none⟩) 0 0) w6 from
        ⟨HCP.out.m.at (hb56.block _ hmbB), ⟨hn6, ⟨by simp [ic], .inr ⟨wh.heap.size, 0, #[], rfl, Nat.le_refl _, (ha6.block _ (by omega)).trans hn5, Nat.le_refl _, Nat.zero_le _, by simp, by simp [ic]⟩⟩, by omega, by omega⟩, FX.of_below hb56, fun k hk => by simp at hk⟩)
      obtain ⟨gv, hgv⟩ := GS.vals (w := w1) (p := pg) (gr := gr) (by have := Hgs.out; rw [← HG.out] at this; exact this)
      have Hgvn := Lib.hid (show ∀ g, g < G → NRow w.heap.size (gv g) from fun g hg => by
        obtain ⟨a, o, h1, h2, h3, h4⟩ := hgv g (by rw [HG.out]; exact hg)
        exact (Hnew.out g hg a o _ h1 h3).2)
      have Hwh := Lib.hid (show w.heap.size ≤ wh.heap.size from by have := hobl; have := Hob.out; omega)
      -- what is read of the old world
      have hb1h : Below w1.heap.size w1 wh := Hb13.out.trans (HCP.out.f.below (Nat.le_refl _) (by omega) (by omega))
      have Hold := Lib.hid (show ∀ w', FX w1.heap.size w1.heap.size wh.heap.size wh w' → Below w1.heap.size w1 w' from fun w' hf => hb1h.trans (hf.below (Nat.le_refl _) (Nat.le_refl _) (Nat.le_of_lt hmbB)))
      have Hgv := Lib.hid (show ∀ w' g, Below w1.heap.size w1 w' → g < G → ∃ a o, pg = some ⟨a, o, none⟩ ∧ w'.cell? ⟨a, o + g, none⟩ = some (gv g) ∧ IS w' (gv g) (grp gr g) from fun w' g hb hg => by
        obtain ⟨a, o, h1, h2, h3, h4⟩ := hgv g (by rw [HG.out]; exact hg)
        exact ⟨a, o, h1, (hb.cell (p := ⟨a, _, none⟩) h2).trans h3, h4.below hb⟩)
      have hta : ∀ (w : World) (x : Int), (Instr.typeAssert (.iface 3 (.int .i64 x)) 20 3 false).run Try.prog w = .ok (.int .i64 x) w := fun _ _ => by kernel_rfl
      clear hgv ha5 hn5 hs5 ha6 hn6 hs6 hb56 hb1h
      have Hta := Lib.hid hta; clear hta
      have Husr := Lib.hid (show ∀ g, g < G → ∃ p5 c5, ∀ w', FX w1.heap.size w1.heap.size wh.heap.size wh w' → w'.cell? ⟨w1.heap.size + 1, g, none⟩ = some (.slice p5 (usrP (prs E of E.length) g).length c5) ∧ RC w' 1 p5 (usrP (prs E of E.length) g).length (ic (usrP (prs E of E.length) g)) from fun g hg => by
        obtain ⟨v5, h5, h6⟩ := HCP.out.u.cell hg
        obtain ⟨p5, c5, rfl⟩ := own_slice h6
        have hsz := HCP.out.u.sz
        refine ⟨p5, c5, fun w' hf => ⟨(cell_at (hf.block _ (by omega) (by omega) (by omega))).trans h5, (RC.of_own h6).fr hf.size fun a o ha _ => hf.block a ?_ ?_ ?_⟩⟩
        · subst ha; exact (h6.lt a rfl).2
        · subst ha; have := (h6.lt a rfl).1; omega
        · subst ha; have := (h6.lt a rfl).1; omega)
      go_wp2
      go_loopw [90] (fun a wr => ∃ (g : Nat) (h : List Int) (v : Value), a = .int .i64 g ∧ g ≤ G ∧ HpS w1.heap.size G wh.heap.size (wh.heap.size + 1) wh (missP (prs E of E.length)) h v wr ∧ (∀ x, x ∈ h ↔ ∃ u, u < g ∧ missP (prs E of E.length) u = 0 ∧ x = fst' gr u) ∧ h.Nodup ∧ h.length ≤ g) (fun a _ => G - (intOf a).toNat)
      case atStart => exact ⟨0, [], _, rfl, Nat.zero_le _, HS6.out, fun x => ⟨fun h => by simp at h, fun ⟨u, h, _⟩ => by omega⟩, List.nodup_nil, Nat.le_refl _⟩
      case round =>
        obtain ⟨g, h, v, rfl, hg, hHS, hmem, hnd, hhl⟩ := hrel
        have HHS := Lib.hid hHS; have Hmem := Lib.hid hmem; have Hnd := Lib.hid hnd
        clear hHS hmem hnd
        by_cases hlt : g < G
        · have z0 := HHS.out.m.cell hlt
          unfold nI at z0
          by_cases hz : missP (prs E of E.length) g = 0
          · have d0 : ((missP (prs E of E.length) g : Int) == 0) = true := by simp [hz]
            have d0' : (missP (prs E of E.length) g == 0) = true := by simp [hz]
            have Hz := Lib.hid hz
            have hbw := Hold.out wr HHS.out.f
            obtain ⟨a, o, hpg, zc, hIS⟩ := Hgv.out wr g hbw hlt
            subst hpg
            obtain ⟨i1, hi1, hf1, hf2, hf3⟩ := HGA.out.first (g := g) (by rw [HG.out]; exact hlt)
            have hl0 : 0 < (grp gr g).length := by
              have h1 := HGA.out.gi.ne _ (List.mem_of_getElem? (grp_get (gr := gr) (g := g) (by rw [HG.out]; exact hlt)))
              exact List.length_pos_iff.2 h1
            obtain ⟨qg, cg2, hge, _, hrg⟩ := hIS
            rw [hge] at zc
            obtain ⟨a2, o2, hq2, _, z2⟩ := hrg.at hl0
            subst hq2
            rw [show (grp gr g)[0] = fst' gr g by simp [fst', hl0], Nat.add_zero] at z2
            have Hpush := Lib.hid (push_any (wh.heap.size + 1) wh.heap.size h (fst' gr g) v wr HHS.out.r HHS.out.hp (by omega))
            have hnew : fst' gr g ∉ h := fun hx => by
              obtain ⟨u, h1, _, h3⟩ := (Hmem.out _).1 hx
              have := HGA.out.first_inj (g := g) (u := u) (by rw [HG.out]; exact hlt) (by rw [HG.out]; omega) h3
              omega
            have Hnew := Lib.hid hnew
            have hgl2 : (grp gr g).length ≤ 1000000 := by
              have h1 : ∀ x ∈ grp gr g, ∃ k : Nat, k < E.length ∧ x = (k : Int) := fun x hx => by
                obtain ⟨k, h1, h2, _⟩ := (HGA.out.mem (g := g) (by rw [HG.out]; exact hlt) x).1 hx
                exact ⟨k, h1, h2⟩
              have h2 := HGA.out.cls hi1
              rw [hf2] at h2
              rw [h2]
              have := marked_len E.length (mutB E i1)
              have := Hn.out
              unfold cls; omega
            generalize hfg : fst' gr g = fg at *
            have Hfg := Lib.hid hfg; clear hfg
            generalize (grp gr g).length = lg at *
            clear hz hf1 hf2 hf3 hi1 hge hrg hbw hnew
            go_wp2_with (go_at_call 24; refine Hpush.out.mono ?_; rintro e w8 ⟨ys, v8, rfl, h1, h2, h3, h4⟩; have P1 := Lib.hid h1; have P2 := Lib.hid (HHS.out.yf hmbB h3 h2 h4); clear h1 h2 h3 h4)
            refine ⟨⟨g + 1, ys, v8, by go_num, by omega, P2.out, fun x => ?_, P1.out.nodup_iff.2 (List.nodup_cons.2 ⟨Hnew.out, Hnd.out⟩), by rw [P1.out.length_eq]; simp; omega⟩, by simp [intOf]; omega⟩
            rw [P1.out.mem_iff, List.mem_cons, Hmem.out]
            constructor
            · rintro (h1 | ⟨u, h1, h2, h3⟩)
              · exact ⟨g, by omega, Hz.out, by rw [h1, Hfg.out]⟩
              · exact ⟨u, by omega, h2, h3⟩
            · rintro ⟨u, h1, h2, h3⟩
              rcases Nat.lt_or_ge u g with h4 | h4
              · exact .inr ⟨u, h4, h2, h3⟩
              · have : u = g := by omega
                subst this; exact .inl (by rw [h3, Hfg.out])
          · have d0 : ((missP (prs E of E.length) g : Int) == 0) = false := by rw [beq_eq_false_iff_ne]; omega
            have d0' : (missP (prs E of E.length) g == 0) = false := by rw [beq_eq_false_iff_ne]; exact hz
            have Hz := Lib.hid hz; clear hz
            go_wp2
            refine ⟨⟨g + 1, h, v, by go_num, by omega, HHS.out, fun x => ?_, Hnd.out, by omega⟩, by simp [intOf]; omega⟩
            rw [Hmem.out]
            constructor
            · rintro ⟨u, h1, h2, h3⟩; exact ⟨u, by omega, h2, h3⟩
            · rintro ⟨u, h1, h2, h3⟩
              rcases Nat.lt_or_ge u g with h4 | h4
              · exact ⟨u, h4, h2, h3⟩
              · have : u = g := by omega
                subst this; exact absurd h2 Hz.out
        · have hgG : g = G := by omega
          have dGG : decide (g < G) = false := by simp; omega
          have HK0 := Lib.hid (show KI E of gr [] (missP (prs E of E.length)) h from
            ⟨fun q hq => by simp at hq, List.nodup_nil, fun q hq => by simp at hq, fun q _ => by simp [missP], fun x => by
              rw [Hmem.out, hgG]
              constructor
              · rintro ⟨u, h1, h2, h3⟩; exact ⟨u, by rw [HG.out]; exact h1, by simp, h2, h3⟩
              · rintro ⟨u, h1, _, h2, h3⟩; exact ⟨u, by rw [← HG.out]; exact h1, h2, h3⟩, Hnd.out, Topo.nil E⟩)
          clear hgG
          have Hhl := Lib.hid hhl
          clear hhl
          go_wp2
          go_loopg [14] G (fun q o wr => ∃ (dl : List Nat) (miss : Nat → Nat) (h : List Int) (v : Value), HpS w1.heap.size G wh.heap.size (wh.heap.size + 1) wh miss h v wr ∧ KI E of gr dl miss h ∧ wr.ownsRow wh.heap.size 22 1 o dl.length (dl.map gv) ∧ G - dl.length ≤ q ∧ h.length ≤ 1000)
          case atStart => exact ⟨[], _, h, v, HHS.out, HK0.out, World.ownsRow_nil _ _ _ _, by simp, by have := Hhl.out; omega⟩
          case round =>
            obtain ⟨dl, miss, hp, vr, hHS2, hK, hown, hgq, hhl⟩ := hrel
            have HH2 := Lib.hid hHS2; have HK := Lib.hid hK; have Hown := Lib.hid hown; have Hgq := Lib.hid hgq
            obtain ⟨pr, cr, rfl⟩ := own_slice hHS2.r.own
            have zr := one_cell hHS2.r.blk
            clear hHS2 hK hown hgq
            have Hlen := Lib.hid (len42_any pr hp.length cr wr)
            rcases Nat.eq_zero_or_pos hp.length with hz | hpos
            · have hp0 : hp = [] := List.length_eq_zero_iff.1 hz
              subst hp0
              have hdone := HK.out.done HGA.out
              obtain ⟨po, co, rfl⟩ := own_slice Hown.out
              have hbw := Hold.out wr HH2.out.f
              have hgs : GS wr po dl.length (dl.map (grp gr)) := by
                refine ⟨by simp, fun k hk => ?_⟩
                have hk' : k < dl.length := by simpa using hk
                obtain ⟨g9, rfl⟩ := own_ptr Hown.out (by omega)
                have hlt9 := HK.out.lt _ (List.getElem_mem hk')
                obtain ⟨_, _, _, _, hIS⟩ := Hgv.out wr dl[k] hbw (by rw [← HG.out]; exact hlt9)
                obtain ⟨a', o', he, h5, h6⟩ := (RC.of_own Hown.out).2 (by omega)
                injection he with he; injection he with e1 e2; subst e1 e2
                refine ⟨g9, 0, gv dl[k], rfl, h5, h6 k _ (by simp [hk']), ?_⟩
                rw [List.getElem_map]; exact hIS
              have hng : NG w.heap.size wr po dl.length := by
                intro k hk a o u hpo hu
                obtain ⟨g9, rfl⟩ := own_ptr Hown.out (by omega)
                have hlt9 := HK.out.lt _ (List.getElem_mem hk)
                obtain ⟨a', o', he, h5, h6⟩ := (RC.of_own Hown.out).2 (by omega)
                injection he with he; injection he with e1 e2; subst e1 e2
                injection hpo with hpo; injection hpo with e1 e2; subst e1 e2
                rw [h6 k (gv dl[k]) (by simp [hk])] at hu
                cases hu
                exact ⟨Nat.le_trans Hwh.out (Hown.out.lt g9 rfl).1, Hgvn.out _ (by rw [← HG.out]; exact hlt9)⟩
              have Hng := Lib.hid hng
              have Hgs2 := Lib.hid hgs
              have Hdone := Lib.hid hdone
              have Htopo := Lib.hid HK.out.topo
              have Hb0 := Lib.hid (Hb1.out.trans (hbw.mono Hb1.out.size))
              have hdl : (dl.map (grp gr)).length = dl.length := by simp
              generalize hout : dl.map (grp gr) = out at *
              have Hdl := Lib.hid hdl
              have Hkr := Lib.hid (show KN E w (.returned (.slice po dl.length co)) wr from ⟨out, po, co, by rw [Hdl.out], by rw [Hdl.out]; exact Hgs2.out, Htopo.out, Hdone.out, Hb0.out, by rw [Hdl.out]; exact Hng.out⟩)
              clear hdone hgs hng hbw hdl hout
              go_wp2_with (go_at_call 25; refine Hlen.out.mono ?_; rintro e w8 ⟨rfl, rfl⟩)
              go_ret
              exact Hkr.out
            · obtain ⟨hm, hhm⟩ : ∃ hm, hp.length = hm + 1 := ⟨hp.length - 1, by omega⟩
              have Hhm := Lib.hid hhm
              have Hpop := Lib.hid (pop_any (wh.heap.size + 1) wh.heap.size hm hp _ wr HH2.out.r HH2.out.hp hhm (by omega))
              clear hpos
              have hta := Hta.out
              have dpos : decide (0 < hp.length) = true := by rw [decide_eq_true_iff]; omega
              clear hhm
              go_upto_region 24 with (go_at_call 25; refine Hlen.out.mono ?_; rintro e w8 ⟨rfl, rfl⟩)
              have hmem0 : hp[0]'(by have := Hhm.out; omega) ∈ hp := List.getElem_mem _
              obtain ⟨u0, hu0, -, -, -⟩ := (HK.out.hp _).1 hmem0
              have hbw := Hold.out wr HH2.out.f
              obtain ⟨ga, go', hpg, -, -⟩ := Hgv.out wr u0 hbw (by rw [← HG.out]; exact hu0)
              subst hpg
              clear hmem0 hu0 hbw u0
              go_upto_region 25 with (go_at_call 26; refine Hpop.out.mono ?_; rintro e w8 ⟨x8, zs, v8, rfl, p1, p2, p3, p4, p5⟩; obtain ⟨i9, g9, hi9, hx9, ho9, hg9, hd9, hm9, hf9, hT9⟩ := HK.out.pop2 HGA.out p1 p2; subst hx9; have P1 := Lib.hid p1; have HS8 := Lib.hid (HH2.out.yf hmbB p4 p3 p5); have Hown8 := Lib.hid (out_keep Hown.out p5 ⟨_, HH2.out.r.blk⟩); have Hd9 := Lib.hid hd9; have Hm9 := Lib.hid hm9; have Hf9 := Lib.hid hf9; have HT9 := Lib.hid hT9; have Hi9 := Lib.hid hi9; have r9 := (Hof.out.below (Hold.out w8 HS8.out.f)).cell hi9; rw [ho9] at r9; rw [HG.out] at hg9; have hin9 : i9 < n := (by rw [Hn.out]; exact hi9); clear p1 p2 p3 p4 p5 hi9 hd9 hm9 hf9 hT9 ho9)
              have hbw8 := Hold.out w8 HS8.out.f
              obtain ⟨_, _, he8, zc8, hIS8⟩ := Hgv.out w8 g9 hbw8 hg9
              injection he8 with he8; injection he8 with e81 e82; subst e81 e82
              obtain ⟨q8, c8, hge8, _, _⟩ := hIS8
              rw [hge8] at zc8
              have Hge8 := Lib.hid hge8
              have hdlG : dl.length < G := by
                have h1 := nodup_len (G := G) (l := g9 :: dl) (List.nodup_cons.2 ⟨Hd9.out, HK.out.nd⟩) (fun x hx => by
                  rcases List.mem_cons.1 hx with rfl | hx
                  · exact hg9
                  · rw [← HG.out]; exact HK.out.lt x hx)
                rw [List.length_cons] at h1; omega
              have b6 : Below w8.heap.size w8 (w8.alloc (.cells #[.slice q8 (grp gr g9).length c8] 22)) := (Below.refl _ _).alloc (Nat.le_refl _) _
              have n6 := heap_alloc_new w8 (.cells #[.slice q8 (grp gr g9).length c8] 22)
              have Ho6 := Lib.hid (ownsRow_below Hown8.out b6 (Nat.le_refl _))
              have Hbz := Lib.hid (show wh.heap.size ≤ (w8.alloc (.cells #[.slice q8 (grp gr g9).length c8] 22)).heap.size from Nat.le_trans HS8.out.r.sz b6.size)
              have Hrc := Lib.hid (show RC (w8.alloc (.cells #[.slice q8 (grp gr g9).length c8] 22)) 1 (some ⟨w8.heap.size, 0, none⟩) 1 [.slice q8 (grp gr g9).length c8] from RC.row rfl n6 (fun j u hu => by simpa using hu))
              have hbd : dl.length + 1 ≤ 67108864 := by omega
              clear hge8 b6 n6 r9 hin9 hbw8
              go_upto_region 26 with (at_builtin; go_loud (refine wpList_append_ownrc rfl (.tmp 120) (.tmp 125) 23 rfl 22 (by kernel_rfl) slice_info rfl (by decide) (by decide) wh.heap.size _ (some ⟨w8.heap.size, 0, none⟩) dl.length 1 1 _ [.slice q8 (grp gr g9).length c8] Hbz.out _ rfl rfl Ho6.out Hrc.out (by simp [Value.oneCell']) hbd ?_); intro v10 w10 ho10 hf10; have HS10 := Lib.hid (HS8.out.frout hmbB Hown8.out rfl hf10); have Hown10 := Lib.hid ho10; clear ho10 hf10)
              obtain ⟨p11, c11, hur⟩ := Husr.out g9 hg9
              have zu := (hur w10 HS10.out.f).1
              have Hur := Lib.hid hur
              have Hown11 := Lib.hid (show w10.ownsRow wh.heap.size 22 1 v10 (dl.length + 1) (dl.map gv ++ [gv g9]) from by rw [Hge8.out]; exact Hown10.out)
              have HKU := Lib.hid (KU.start HK.out HGA.out (by rw [HG.out]; exact hg9) Hd9.out Hm9.out (Hf9.out ▸ P1.out))
              have hul : (usrP (prs E of E.length) g9).length ≤ 20000000 := by unfold usrP; rw [List.length_map]; exact Nat.le_trans (List.length_filter_le _ _) HCP.out.len
              have Hfu := Lib.hid (show ∀ (miss : Nat → Nat) (h : List Int), KU E of gr dl g9 miss h (usrP (prs E of E.length) g9) → True from fun _ _ _ => trivial)
              generalize hUL : usrP (prs E of E.length) g9 = UL at *
              have HUL := Lib.hid hUL
              clear hur hUL Hfu zc8
              go_wp2
              go_loopw [132] (fun a wr => ∃ (m : Nat) (miss : Nat → Nat) (h : List Int) (v : Value), a = .int .i64 m ∧ m ≤ UL.length ∧ KU E of gr dl g9 miss h (UL.drop m) ∧ HpS w1.heap.size G wh.heap.size (wh.heap.size + 1) wh miss h v wr ∧ wr.ownsRow wh.heap.size 22 1 v10 (dl.length + 1) (dl.map gv ++ [gv g9])) (fun a _ => UL.length - (intOf a).toNat)
              case atStart => exact ⟨0, miss, zs, v8, rfl, Nat.zero_le _, HKU.out, HS10.out, Hown11.out⟩
              case round =>
                obtain ⟨m, ms, h, v, rfl, hml, hKU, hS, hO⟩ := hrel
                have HKU2 := Lib.hid hKU; have HS2 := Lib.hid hS; have HO2 := Lib.hid hO
                clear hKU hS hO
                by_cases hlm : m < UL.length
                · have hdr : UL.drop m = UL[m] :: UL.drop (m + 1) := List.drop_eq_getElem_cons hlm
                  have hK3 := HKU2.out
                  rw [hdr] at hK3
                  obtain ⟨u, hue, huG, hud⟩ := hK3.rm UL[m] List.mem_cons_self
                  rw [hue] at hK3
                  obtain ⟨a14, o14, hp14, _, z14⟩ := (Hur.out wr HS2.out.f).2.at (L := UL) hlm
                  rw [hue] at z14
                  rw [HG.out] at huG
                  have hpo := hK3.pos.2
                  have Hpo := Lib.hid hpo
                  have zm := HS2.out.m.cell huG
                  have zmf := HS2.out.m.free u
                  unfold nI at zm
                  have Hset := Lib.hid (HS2.out.set hmbB huG (decN ms u) (y := (ms u : Int) - 1) fun q _ => nI_dec hpo q)
                  have hmsb : ms u ≤ 20000000000 := by
                    rw [HKU2.out.ms u (by rw [HG.out]; exact huG)]
                    have h1 := List.countP_le_length (p := fun p : Nat × Nat => p.1 == u && decide (p.2 ∉ dl ++ [g9])) (l := prs E of E.length)
                    have h2 := HCP.out.len
                    have h3 := List.count_le_length (a := (u : Int)) (l := UL.drop m)
                    have h4 : (UL.drop m).length ≤ UL.length := by simp
                    omega
                  have HK3 := Lib.hid hK3
                  clear hK3 hdr hue hud
                  subst hp14
                  by_cases hz : decN ms u u = 0
                  · have hm1 : ms u = 1 := by have : decN ms u u = ms u - 1 := by simp [decN]
                                              omega
                    have Hz := Lib.hid hz
                    have hgb := Hold.out wr HS2.out.f
                    obtain ⟨_, _, he8, zc, hIS⟩ := Hgv.out wr u hgb huG
                    injection he8 with he8; injection he8 with e81 e82; subst e81 e82
                    have hl0 : 0 < (grp gr u).length := by
                      have h1 := HGA.out.gi.ne _ (List.mem_of_getElem? (grp_get (gr := gr) (g := u) (by rw [HG.out]; exact huG)))
                      exact List.length_pos_iff.2 h1
                    obtain ⟨qg, cg2, hge, _, hrg⟩ := hIS
                    rw [hge] at zc
                    obtain ⟨a2, o2, hq2, ha2', z2⟩ := hrg.at hl0
                    subst hq2
                    rw [show (grp gr u)[0] = fst' gr u by simp [fst', hl0], Nat.add_zero] at z2
                    have hgl2 : (grp gr u).length ≤ 1000000 := by
                      obtain ⟨i1, hi1, _, hf2, _⟩ := HGA.out.first (g := u) (by rw [HG.out]; exact huG)
                      have h2 := HGA.out.cls hi1
                      rw [hf2] at h2
                      rw [h2]
                      have := marked_len E.length (mutB E i1)
                      have := Hn.out
                      unfold cls; omega
                    have hhl9 : h.length ≤ 1000 := by
                      have h1 := hlen_of (n := E.length) HKU2.out.hn (fun x hx => by
                        obtain ⟨u, hu, _, _, hxu⟩ := (HKU2.out.hp x).1 hx
                        obtain ⟨i, hi, e1, _, _⟩ := HGA.out.first hu
                        exact ⟨i, hi, by rw [hxu, e1]⟩)
                      have := Hn.out; omega
                    have Hpush := Lib.hid (push_any (wh.heap.size + 1) wh.heap.size h (fst' gr u) v _ Hset.out.1.r Hset.out.1.hp (by omega))
                    have d1 : ((ms u : Int) - 1 == 0) = true := by rw [hm1]; rfl
                    have hms1 := hm1
                    -- the groups' cells behind the store
                    have hfx := Hset.out.1.f
                    have hgb2 := Hold.out _ hfx
                    have hzc2 := (Hgv.out _ u hgb2 huG)
                    obtain ⟨_, _, he9, zc9, hIS9⟩ := hzc2
                    injection he9 with he9; injection he9 with e91 e92; subst e91 e92
                    rw [hge] at zc9
                    have z29 : (wr.setCell ⟨w1.heap.size, u, none⟩ (.int .i64 ((ms u : Int) - 1))).cell? ⟨a2, o2, none⟩ = some (.int .i64 (fst' gr u)) := by
                      obtain ⟨qg', cg', hge', _, hrg'⟩ := hIS9
                      rw [hge] at hge'
                      obtain ⟨rfl, _⟩ : some ⟨a2, o2, none⟩ = qg' ∧ cg2 = cg' := by simpa using hge'
                      obtain ⟨a3, o3, hq3, _, z3⟩ := hrg'.at hl0
                      injection hq3 with hq3; injection hq3 with f1 f2; subst f1; subst f2
                      rw [show (grp gr u)[0] = fst' gr u by simp [fst', hl0], Nat.add_zero] at z3
                      exact z3
                    have HP := Lib.hid (show ∀ h', h'.Perm (fst' gr u :: h) → KU E of gr dl g9 (decN ms u) h' (UL.drop (m + 1)) from fun h' hp => HK3.out.push HGA.out Hz.out hp)
                    generalize fst' gr u = fg at *
                    generalize (grp gr u).length = lg at *
                    have HIS9 := Lib.hid hIS9; have Hge := Lib.hid hge; have Hrg := Lib.hid hrg
                    clear hz hm1 hms1 hgb hgb2 hfx hIS9 hge hrg zc z2 hpo
                    go_upto_region 30 with fail
                    generalize wr.setCell ⟨w1.heap.size, u, none⟩ (.int .i64 ((ms u : Int) - 1)) = w15 at *
                    have HO15 := Lib.hid (ownsRow_at HO2.out (w' := w15) fun g hg => by
                      obtain ⟨o, hu⟩ := Hset.out.2
                      exact hu.other g (by have := (HO2.out.lt g hg).1; omega))
                    have zm15 : w15.cell? ⟨w1.heap.size, u, none⟩ = some (.int .i64 ((ms u : Int) - 1)) := by
                      have h1 := Hset.out.1.m.cell huG
                      rw [nI_dec Hpo.out u, if_pos rfl] at h1
                      exact h1
                    clear zm zmf zu
                    go_wp2_with (go_at_call 24; refine Hpush.out.mono ?_; rintro e w18 ⟨ys, v18, rfl, h1, h2, h3, h4⟩; have P1 := Lib.hid h1; have HS18 := Lib.hid (Hset.out.1.yf hmbB h3 h2 h4); have HO18 := Lib.hid (out_keep HO15.out h4 ⟨_, Hset.out.1.r.blk⟩); clear h1 h2 h3 h4)
                    exact ⟨⟨m + 1, decN ms u, ys, v18, by go_num, by omega, HP.out ys P1.out, HS18.out, HO18.out⟩, by simp [intOf]; omega⟩
                  · have hm1 : ms u ≠ 1 := by have : decN ms u u = ms u - 1 := by simp [decN]
                                              omega
                    have Hz := Lib.hid hz
                    have d1 : ((ms u : Int) - 1 == 0) = false := by rw [beq_eq_false_iff_ne]; omega
                    clear hz hm1 hpo
                    go_upto_region 30 with fail
                    generalize wr.setCell ⟨w1.heap.size, u, none⟩ (.int .i64 ((ms u : Int) - 1)) = w15 at *
                    have HO15 := Lib.hid (ownsRow_at HO2.out (w' := w15) fun g hg => by
                      obtain ⟨o, hu⟩ := Hset.out.2
                      exact hu.other g (by have := (HO2.out.lt g hg).1; omega))
                    have zm15 : w15.cell? ⟨w1.heap.size, u, none⟩ = some (.int .i64 ((ms u : Int) - 1)) := by
                      have h1 := Hset.out.1.m.cell huG
                      rw [nI_dec Hpo.out u, if_pos rfl] at h1
                      exact h1
                    clear zm zmf zu
                    go_wp2
                    exact ⟨⟨m + 1, decN ms u, h, v, by go_num, by omega, HK3.out.keep Hz.out, Hset.out.1, HO15.out⟩, by simp [intOf]; omega⟩
                · have hmL : m = UL.length := by omega
                  have dmm : decide (m < UL.length) = false := by simp; omega
                  have hK3 := HKU2.out
                  rw [hmL, List.drop_length] at hK3
                  have HKf := Lib.hid (KU.finish HK.out hK3 (by rw [HG.out]; exact hg9) Hd9.out Hm9.out HT9.out)
                  have hhl9 : h.length ≤ 1000 := by
                    have h1 := hlen_of (n := E.length) HKf.out.hn (fun x hx => by
                      obtain ⟨u, hu, _, _, hxu⟩ := (HKf.out.hp x).1 hx
                      obtain ⟨i, hi, e1, _, _⟩ := HGA.out.first hu
                      exact ⟨i, hi, by rw [hxu, e1]⟩)
                    have := Hn.out; omega
                  clear hK3 hmL
                  go_wp2
                  go_roundg (G - (dl.length + 1))
                  case rel => exact ⟨dl ++ [g9], ms, h, v, HS2.out, HKf.out, by rw [List.length_append, List.length_singleton, List.map_append, List.map_singleton]; exact HO2.out, by rw [List.length_append, List.length_singleton]; exact Nat.le_refl _, hhl9⟩
                  case measure => have := Hgq.out; omega
theorem comps_any (w : World) (p : Option Addr) (n c : Nat) (E : Gr) (h : GS w p n E) (hs : SmallG E) (hn : n ≤ 1000) (hrow : ∀ l ∈ E, l.length ≤ 1000) :
    Calls Try.prog 11 #[.slice p n c] w (KR E w) :=
  (comps_new w p n c E h hs hn hrow).mono fun _ _ ⟨out, p, c, h1, h2, h3, h4, h5, _⟩ => ⟨out, p, c, h1, h2, h3, h4, h5⟩
end Go.Proofs.Yteejlibiidiibaa
