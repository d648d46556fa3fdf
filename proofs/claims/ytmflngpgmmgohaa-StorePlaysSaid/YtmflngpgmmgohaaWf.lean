/-
  Walks: the reference's store: Compact, OpenStore.
-/
import Derived.Test.YtmflngpgmmgohaaWe
namespace Go.Proofs.Ytmflngpgmmgohaa
open Go.RowKit Go.Sort Go.Names

def recF (L : List Rec) (x : Nm) : Rec := (toB x, cur L (toB x))
def compL (L : List Rec) : List Rec := (KL L).map (recF L)
theorem KL_mem {L : List Rec} {x : Nm} (h : x ∈ KL L) : ¬ cur L (toB x) = ⟨#[]⟩ := by
  unfold KL at h
  rw [nrm_mem, List.mem_map] at h
  obtain ⟨r, hr, rfl⟩ := h
  have h2 := (List.mem_filter.1 hr).2
  rw [toB_inj]
  simpa using h2
theorem KL_len (L : List Rec) : (KL L).length ≤ L.length := Nat.le_trans (nrm_len _) (by rw [List.length_map]; exact List.length_filter_le _ _)
theorem compL_small {L : List Rec} {a b : Nat} (hs : ∀ r ∈ L, r.1.size ≤ a ∧ r.2.size ≤ b) : ∀ x ∈ KL L, (toB x).size ≤ a ∧ (cur L (toB x)).size ≤ b := fun x hx => hs _ (cur_mem (KL_mem hx))
theorem comp_compL {D : MD} {L : List Rec} (h : Cur D L) (hT : Tid D) : comp D = compL L := by
  unfold comp compL
  rw [KL_KS h hT]
  refine List.map_congr_left fun x _ => ?_
  unfold recOf recF
  rw [h.data]
  rfl
theorem RA.zero {w : World} {r eb : Nat} {v : Value} {L : List Rec} {R : RM} (h : RA w r eb v L R) : ∃ p cap, v = .slice p L.length cap := own_slice h.own

set_option maxRecDepth 100000 in
set_option maxHeartbeats 16000000 in
theorem refcompact_any (r eb : Nat) (v : Value) (L : List Rec) (R : RM) (w : World) (h : RA w r eb v L R) (hok : R.Ok) (hoT : R.truncC 0 = 0 → (R.truncR 0).Ok) (hoA : R.truncC 0 = 0 → (R.truncR 0).appendC (framesB (compL L)) = 0 → ((R.truncR 0).appendR (framesB (compL L))).Ok)
    (hl : L.length ≤ 100000) (hz : ∀ x ∈ L, x.1.size ≤ 65536 ∧ x.2.size ≤ 65536) (hsz : ∀ k, (framesB (L.take k)).size ≤ 1099511627776) (hTz : ∀ k, (framesB (((KL L).take k).map (recF L))).size ≤ 1099511627776) :
    Calls Try.prog 44 #[.pointer (some ⟨r, 0, none⟩)] w fun e w' =>
      ((framesB L).size ≤ (framesB (compL L)).size ∧ e = .returned (.int .i64 0) ∧ RP w w' r eb v L R) ∨
      ((framesB (compL L)).size < (framesB L).size ∧ e = .returned (.int .i64 (rcompC R (framesB (compL L)))) ∧ RP w w' r eb v (if rcompC R (framesB (compL L)) = 0 then compL L else L) (rcompR R (framesB (compL L)))) := by
  obtain ⟨c0, c1, fz⟩ := h.cells
  obtain ⟨p, cap, rfl⟩ := h.zero
  have hKe := refkeys_any r eb _ L R w h hl (fun x hx => by have := (hz x hx).1; unfold maxLen; omega)
  have hcs := compL_small hz
  have hkl := KL_len L
  have hCe : compL L = ((KL L).take (KL L).length).map (recF L) := by rw [List.take_length]; rfl
  have hLe : framesB L = framesB (L.take L.length) := by rw [List.take_length]
  have hTz1 := hTz (KL L).length
  have hsz1 := hsz L.length
  rw [← hCe] at hTz1
  rw [← hLe] at hsz1
  generalize hCL : compL L = CL at *
  have HCL := Lib.hid hCL; clear hCL
  have HCe := Lib.hid hCe; clear hCe
  generalize hT : framesB CL = T at *
  have HT := Lib.hid hT; clear hT
  generalize hF : framesB L = F at *
  have HF := Lib.hid hF; clear hF
  have HLe := Lib.hid hLe; clear hLe
  generalize KL L = K at *
  obtain ⟨CC, hCC⟩ : ∃ x, x = rcompC R T := ⟨_, rfl⟩
  obtain ⟨RR, hRR⟩ : ∃ x, x = rcompR R T := ⟨_, rfl⟩
  obtain ⟨LL, hLL⟩ : ∃ x, x = if rcompC R T = 0 then CL else L := ⟨_, rfl⟩
  rw [← hLL, ← hCC, ← hRR]
  have HCC := Lib.hid hCC; clear hCC
  have HRR := Lib.hid hRR; clear hRR
  have HLL := Lib.hid hLL; clear hLL
  have H := Lib.hid h; clear h
  have Hok := Lib.hid hok; clear hok
  have Hz := Lib.hid hz; clear hz
  have Hsz := Lib.hid hsz; clear hsz
  have HTz := Lib.hid hTz; clear hTz
  have Hcs := Lib.hid hcs; clear hcs
  have hrl := heap_lt H.out.blk
  have hel := heap_lt H.out.dk
  go_enter Try.func44, Try.ntmps44
  go_wp2_with (first
    | (go_at_call 69; refine hKe.mono ?_; rintro e w1 ⟨v69, rfl, hos, hb1⟩; obtain ⟨q, qc, rfl, _⟩ := hos.cut; have Hos := Lib.hid hos; clear hos))
  have hs1 := hb1.size
  have H1 := Lib.hid (H.out.below hb1)
  have Hb1 := Lib.hid hb1; clear hb1
  go_loopw [3, 4, 18] (fun t l i wr => ∃ k : Nat, i = .int .i64 k ∧ k ≤ K.length ∧ t = .string (framesB ((K.take k).map (recF L))) ∧ wr.ownsRow w1.heap.size 44 2 l k (recCells ((K.take k).map (recF L))) ∧ Below w1.heap.size w1 wr) (fun _ _ i _ => K.length - (intOf i).toNat)
  case atStart => exact ⟨0, rfl, by omega, rfl, World.ownsRow_nil _ _ _ _, Below.refl _ _⟩
  case round =>
    obtain ⟨k, rfl, hk, rfl, hown, hbl⟩ := hrel
    obtain ⟨w2, hw2⟩ : ∃ x, x = wr := ⟨_, rfl⟩
    subst hw2
    by_cases hlt : k < K.length
    · obtain ⟨a, o, rfl, ha, x0⟩ := (Hos.out.below hbl).sl.cell k hlt
      obtain ⟨z1, z2⟩ := Hcs.out K[k] (List.getElem_mem hlt)
      have hg := refget_any r eb _ L R (toB K[k]) w2 (H1.out.below hbl) (by omega)
      have hfr := fun w => refframe_any (toB K[k]) (cur L (toB K[k])) z1 z2 w
      have hfz := frameB_size z1 z2
      have hAz := HTz.out k
      have hnx : (K.take (k + 1)).map (recF L) = (K.take k).map (recF L) ++ [(toB K[k], cur L (toB K[k]))] := by
        rw [List.take_succ_eq_append_getElem hlt, List.map_append]; rfl
      have hn1 : recCells ((K.take (k + 1)).map (recF L)) = recCells ((K.take k).map (recF L)) ++ [.string (toB K[k]), .string (cur L (toB K[k]))] := by rw [hnx, recCells_snoc]
      have hn2 : framesB ((K.take (k + 1)).map (recF L)) = framesB ((K.take k).map (recF L)) ++ frameB (toB K[k]) (cur L (toB K[k])) := by rw [hnx, framesB_snoc]
      clear hnx
      have Hn1 := Lib.hid hn1; clear hn1
      have Hn2 := Lib.hid hn2; clear hn2
      generalize framesB ((K.take k).map (recF L)) = A at *
      generalize recCells ((K.take k).map (recF L)) = C at *
      generalize decide (¬ cur L (toB K[k]) = ⟨#[]⟩) = bb at *
      generalize frameB (toB K[k]) (cur L (toB K[k])) = fr at *
      generalize cur L (toB K[k]) = dv at *
      generalize toB K[k] = kk at *
      have Hown := Lib.hid hown; clear hown
      have hw2s := hbl.size
      have Hbl := Lib.hid hbl; clear hbl
      have HK1 := Lib.hid (show k ≤ 1048576 by omega)
      go_wp2_with (first
        | (go_at_call 43; refine hg.mono ?_; rintro e w3 ⟨rfl, hb3⟩)
        | (go_at_call 28; refine (hfr _).mono ?_; rintro e w4 ⟨rfl, hb4⟩; have Ho4 := Lib.hid (ownsRow_below (ownsRow_below Hown.out hb3 (Nat.le_refl _)) hb4 (Nat.le_refl _)); have HB4 := Lib.hid ((Hbl.out.step hb3).step hb4))
        | (at_builtin; refine wpList_append_recG rfl (.tmp 33) (.tmp 37) 46 rfl (by kernel_rfl) w1.heap.size w4 _ rfl HB4.out.size kk dv _ _ _ rfl Ho4.out HK1.out rfl ?_; intro v5 w5 ho5 hb5 hg5; have Ho5 := Lib.hid ho5; clear ho5 hg5; have HB5 := Lib.hid (hb5 _ HB4.out)))
      exact ⟨⟨k + 1, by go_num, by omega, by rw [Hn2.out], by rw [Hn1.out]; exact Ho5.out, HB5.out⟩, by simp [intOf]; omega⟩
    · obtain rfl : k = K.length := by omega
      rw [← HCe.out] at hown
      have hAT : framesB ((K.take K.length).map (recF L)) = T := by rw [← HCe.out, HT.out]
      rw [hAT]
      clear hAT
      have hcl : CL.length = K.length := by rw [HCe.out]; simp
      rw [← hcl] at hown
      obtain ⟨p4, c4, rfl⟩ := own_slice hown
      have Hown := Lib.hid hown; clear hown
      have hw2s := hbl.size
      have H2 := Lib.hid (H1.out.below hbl)
      have Hbw := Lib.hid (Hb1.out.trans (hbl.mono (Nat.le_trans hs1 (Nat.le_refl _))))
      obtain ⟨d0, d1, fz2⟩ := H2.out.cells
      clear hcl
      go_upto_region 12 with fail
      go_loopw [9, 45] (fun s i wr => ∃ k : Nat, i = .int .i64 k ∧ k ≤ L.length ∧ s = .int .i64 (framesB (L.take k)).size ∧ Below w2.heap.size w2 wr) (fun _ i _ => L.length - (intOf i).toNat)
      case atStart => exact ⟨0, rfl, by omega, rfl, Below.refl _ _⟩
      case round =>
        obtain ⟨k, rfl, hk, rfl, hb3⟩ := hrel
        obtain ⟨w3, hw3⟩ : ∃ x, x = wr := ⟨_, rfl⟩
        subst hw3
        by_cases hlt : k < L.length
        · have o := (H2.out.below hb3).own
          obtain ⟨g, rfl⟩ := own_ptr o (by omega)
          obtain ⟨x0, x1⟩ := own_cells o hlt
          obtain ⟨z1, z2⟩ := Hz.out L[k] (List.getElem_mem hlt)
          have hfr := fun w => refframe_any L[k].1 L[k].2 z1 z2 w
          have hfz := frameB_size z1 z2
          have hAz := Hsz.out k
          have hn2 : (framesB (L.take (k + 1))).size = (framesB (L.take k)).size + (frameB L[k].1 L[k].2).size := by rw [List.take_succ_eq_append_getElem hlt, framesB_snoc, ByteArray.size_append]
          clear o
          have Hn2 := Lib.hid hn2; clear hn2
          generalize (framesB (L.take k)).size = A at *
          generalize frameB L[k].1 L[k].2 = fr at *
          generalize L[k] = rc at *
          obtain ⟨k1, d1'⟩ := rc
          dsimp only at x0 x1 hfr
          have Hb3 := Lib.hid hb3; clear hb3
          go_wp2_with (first
            | (go_at_call 28; refine (hfr _).mono ?_; rintro e w4 ⟨rfl, hb4⟩))
          have e3 : Below w3.heap.size w3 w4 := ((Below.refl _ w3).alloc (Nat.le_refl _) _).step hb4
          exact ⟨⟨k + 1, by go_num, by omega, by rw [Hn2.out]; simp, Hb3.out.step e3⟩, by simp [intOf]; omega⟩
        · obtain rfl : k = L.length := by omega
          rw [← HLe.out]
          have HA := Lib.hid (H2.out.below hb3)
          have HoA := Lib.hid (ownsRow_below Hown.out hb3 (Nat.le_refl _))
          have HbA := Lib.hid (Hbw.out.step hb3)
          obtain ⟨d0, d1, fz3⟩ := HA.out.cells
          have hTr := fun w1 hb => reftrunc_any eb R 0 w1 Hok.out hb
          clear hb3
          by_cases hge : (F.size : Int) ≤ T.size
          · go_wp2
            go_ret
            exact .inl ⟨by omega, rfl, ⟨_, HA.out, .inl rfl⟩, But.of_below HbA.out⟩
          have hlt2 : T.size < F.size := by omega
          by_cases h1 : R.truncC 0 = 0
          case neg =>
            have hh1 : (R.truncC 0 == 0) = false := by simpa using h1
            have e1 : CC = R.truncC 0 := by rw [HCC.out]; unfold rcompC; rw [if_neg h1]
            have e2 : RR = R.truncR 0 := by rw [HRR.out]; unfold rcompR; rw [if_neg h1]
            have e3 : LL = L := by rw [HLL.out, ← HCC.out, e1, if_neg h1]
            clear HCC HRR HLL hoA hoT
            generalize R.truncC 0 = c1' at *
            generalize R.truncR 0 = R1 at *
            have E1 := Lib.hid e1; have E2 := Lib.hid e2; have E3 := Lib.hid e3; clear e1 e2 e3
            go_wp2_with (first
              | (go_at_call 52; refine (hTr _ HA.out.dk).mono ?_; rintro e u2 ⟨rfl, hU2⟩; have H2 := Lib.hid (HA.out.upd hU2); obtain ⟨e0, e1, fz2⟩ := H2.out.cells))
            go_ret
            have e1 := E1.out; have e2 := E2.out; have e3 := E3.out; clear E1 E2 E3; subst e1 e2 e3
            exact .inr ⟨hlt2, rfl, ⟨_, H2.out, .inl rfl⟩, (But.of_below HbA.out).trans (But.of_upd hU2 (by simp))⟩
          have hok1 := hoT h1
          have hAp := fun w1 hb => refappend_any eb (R.truncR 0) T w1 hok1 (by omega) hb
          by_cases h2 : (R.truncR 0).appendC T = 0
          case neg =>
            have hh2 : ((R.truncR 0).appendC T == 0) = false := by simpa using h2
            have e1 : CC = (R.truncR 0).appendC T := by rw [HCC.out]; unfold rcompC; rw [if_pos h1, if_neg h2]
            have e2 : RR = (R.truncR 0).appendR T := by rw [HRR.out]; unfold rcompR; rw [if_pos h1, if_neg h2]
            have e3 : LL = L := by rw [HLL.out, ← HCC.out, e1, if_neg h2]
            rw [h1] at hTr
            clear HCC HRR HLL hoA hoT h1 hok1
            generalize R.truncR 0 = R1 at *
            generalize R1.appendC T = c2' at *
            generalize R1.appendR T = R2 at *
            have E1 := Lib.hid e1; have E2 := Lib.hid e2; have E3 := Lib.hid e3; clear e1 e2 e3
            go_wp2_with (first
              | (go_at_call 52; refine (hTr _ HA.out.dk).mono ?_; rintro e u2 ⟨rfl, hU2⟩; have H2 := Lib.hid (HA.out.upd hU2); obtain ⟨e0, e1, fz2⟩ := H2.out.cells)
              | (go_at_call 41; refine (hAp _ H2.out.dk).mono ?_; rintro e u3 ⟨rfl, hU3⟩; have H3 := Lib.hid (H2.out.upd hU3); obtain ⟨f0, f1, fz3⟩ := H3.out.cells))
            go_ret
            have e1 := E1.out; have e2 := E2.out; have e3 := E3.out; clear E1 E2 E3; subst e1 e2 e3
            exact .inr ⟨hlt2, rfl, ⟨_, H3.out, .inl rfl⟩, ((But.of_below HbA.out).trans (But.of_upd hU2 (by simp))).trans (But.of_upd hU3 (by simp))⟩
          have hok2 := hoA h1 h2
          have hSy := fun w1 hb => refsync_any eb ((R.truncR 0).appendR T) w1 hok2 hb
          by_cases h3 : ((R.truncR 0).appendR T).syncC = 0
          case neg =>
            have hh3 : (((R.truncR 0).appendR T).syncC == 0) = false := by simpa using h3
            have e1 : CC = ((R.truncR 0).appendR T).syncC := by rw [HCC.out]; unfold rcompC; rw [if_pos h1, if_pos h2]
            have e2 : RR = ((R.truncR 0).appendR T).syncR := by rw [HRR.out]; unfold rcompR; rw [if_pos h1, if_pos h2]
            have e3 : LL = L := by rw [HLL.out, ← HCC.out, e1, if_neg h3]
            rw [h1] at hTr
            rw [h2] at hAp
            clear HCC HRR HLL hoA hoT h1 hok1 h2 hok2
            generalize R.truncR 0 = R1 at *
            generalize R1.appendR T = R2 at *
            generalize R2.syncC = c3' at *
            generalize R2.syncR = R3 at *
            have E1 := Lib.hid e1; have E2 := Lib.hid e2; have E3 := Lib.hid e3; clear e1 e2 e3
            go_wp2_with (first
              | (go_at_call 52; refine (hTr _ HA.out.dk).mono ?_; rintro e u2 ⟨rfl, hU2⟩; have H2 := Lib.hid (HA.out.upd hU2); obtain ⟨e0, e1, fz2⟩ := H2.out.cells)
              | (go_at_call 41; refine (hAp _ H2.out.dk).mono ?_; rintro e u3 ⟨rfl, hU3⟩; have H3 := Lib.hid (H2.out.upd hU3); obtain ⟨f0, f1, fz3⟩ := H3.out.cells)
              | (go_at_call 51; refine (hSy _ H3.out.dk).mono ?_; rintro e u4 ⟨rfl, hU4⟩; have H4 := Lib.hid (H3.out.upd hU4); obtain ⟨g0, g1, fz4⟩ := H4.out.cells))
            go_ret
            have e1 := E1.out; have e2 := E2.out; have e3 := E3.out; clear E1 E2 E3; subst e1 e2 e3
            exact .inr ⟨hlt2, rfl, ⟨_, H4.out, .inl rfl⟩, (((But.of_below HbA.out).trans (But.of_upd hU2 (by simp))).trans (But.of_upd hU3 (by simp))).trans (But.of_upd hU4 (by simp))⟩
          have e1 : CC = 0 := by rw [HCC.out]; unfold rcompC; rw [if_pos h1, if_pos h2, h3]
          have e2 : RR = ((R.truncR 0).appendR T).syncR := by rw [HRR.out]; unfold rcompR; rw [if_pos h1, if_pos h2]
          have e3 : LL = CL := by rw [HLL.out, ← HCC.out, e1, if_pos rfl]
          rw [h1] at hTr
          rw [h2] at hAp
          rw [h3] at hSy
          clear HCC HRR HLL hoA hoT h1 hok1 h2 hok2 h3
          generalize R.truncR 0 = R1 at *
          generalize R1.appendR T = R2 at *
          generalize R2.syncR = R3 at *
          have E1 := Lib.hid e1; have E2 := Lib.hid e2; have E3 := Lib.hid e3; clear e1 e2 e3
          go_wp2_with (first
            | (go_at_call 52; refine (hTr _ HA.out.dk).mono ?_; rintro e u2 ⟨rfl, hU2⟩; have H2 := Lib.hid (HA.out.upd hU2); obtain ⟨e0, e1, fz2⟩ := H2.out.cells)
            | (go_at_call 41; refine (hAp _ H2.out.dk).mono ?_; rintro e u3 ⟨rfl, hU3⟩; have H3 := Lib.hid (H2.out.upd hU3); obtain ⟨f0, f1, fz3⟩ := H3.out.cells)
            | (go_at_call 51; refine (hSy _ H3.out.dk).mono ?_; rintro e u4 ⟨rfl, hU4⟩; have H4 := Lib.hid (H3.out.upd hU4); obtain ⟨g0, g1, fz4⟩ := H4.out.cells))
          go_ret
          have e1 := E1.out; have e2 := E2.out; have e3 := E3.out; clear E1 E2 E3; subst e1 e2 e3
          have hU6 := Upd.set (i := 1) (v := .slice p4 LL.length c4) (Upd.refl H4.out.blk)
          have hge4 : ∀ g, (Value.slice p4 LL.length c4).ownBlock = some g → w1.heap.size ≤ g := fun g hg => own_ge HoA.out g hg
          have kup : ∀ {o : Obj} {x y : World}, Upd eb o x y → x.ownsRow w1.heap.size 44 2 (.slice p4 LL.length c4) LL.length (recCells LL) → y.ownsRow w1.heap.size 44 2 (.slice p4 LL.length c4) LL.length (recCells LL) := fun hu ho => ownsRow_but ho (But.of_upd hu (List.mem_singleton.2 rfl)) (by simp; omega)
          have h6 := H4.out.set (L' := LL) (Upd.cast hU6 (by simp)) (ownsRow_zero (kup hU4 (kup hU3 (kup hU2 HoA.out)))) (not_own hge4 (by omega)) (not_own hge4 (by omega))
          exact .inr ⟨hlt2, rfl, ⟨_, h6, .inr fun g hg => Nat.le_trans hs1 (hge4 g hg)⟩, ((((But.of_below HbA.out).trans (But.of_upd hU2 (by simp))).trans (But.of_upd hU3 (by simp))).trans (But.of_upd hU4 (by simp))).trans (But.of_upd hU6 (by simp))⟩
end Go.Proofs.Ytmflngpgmmgohaa
