/-
  Walks: the reference's store: Put.
-/
import Derived.Test.YtmflngpgmmgohaaWd
namespace Go.Proofs.Ytmflngpgmmgohaa
open Go.RowKit Go.Sort Go.Names

theorem RA.set {w w' : World} {r eb : Nat} {v v' : Value} {L L' : List Rec} {R : RM} (h : RA w r eb v L R) (hu : Upd r (.cells #[.pointer (some ⟨eb, 0, none⟩), v'] 106) w w') (ho : w.ownsRow 0 44 2 v' L'.length (recCells L')) (h2 : v'.ownBlock ≠ some r) (h3 : v'.ownBlock ≠ some eb) : RA w' r eb v' L' R :=
  ⟨hu.blk, ho.kept (row := some r) ⟨hu.os, hu.tape, hu.output, by rw [hu.size]; exact Nat.le_refl _, fun k _ hk => hu.other k (fun e => hk (by rw [e]))⟩ (Or.inr h2), (hu.other _ (fun e => h.n1 e.symm)).trans h.dk, h.n1, h2, h3⟩
theorem ownsRow_zero {w : World} {B n : Nat} {v : Value} {xs : List Value} (h : w.ownsRow B 44 2 v n xs) : w.ownsRow 0 44 2 v n xs := by
  refine ⟨h.1, ?_⟩
  rcases h.2 with h2 | ⟨g, cap, cur, h3, h4, h5⟩
  · exact .inl h2
  · exact .inr ⟨g, cap, cur, h3, Nat.zero_le _, h5⟩
theorem own_ge {w : World} {B n : Nat} {v : Value} {xs : List Value} (h : w.ownsRow B 44 2 v n xs) : ∀ g, v.ownBlock = some g → B ≤ g := fun g hg => (h.lt g hg).1
theorem not_own {v : Value} {B x : Nat} (h : ∀ g, v.ownBlock = some g → B ≤ g) (hx : x < B) : v.ownBlock ≠ some x := fun e => by have := h x e; omega

/-- What the reference's store is behind a call. -/
structure RP (w w' : World) (r eb : Nat) (v : Value) (L' : List Rec) (R' : RM) : Prop where
  ra : ∃ v', RA w' r eb v' L' R' ∧ (v' = v ∨ ∀ g, v'.ownBlock = some g → w.heap.size ≤ g)
  but : But [r, eb] w w'

set_option maxRecDepth 100000 in
set_option maxHeartbeats 8000000 in
theorem refput_any (r eb : Nat) (v : Value) (L : List Rec) (R : RM) (k d : ByteArray) (w : World) (h : RA w r eb v L R) (hok : R.Ok) (hoA : R.appendC (frameB k d) = 0 → (R.appendR (frameB k d)).Ok) (hl : L.length ≤ 1000000) (hk : k.size ≤ 65536) (hd : d.size ≤ 65536) :
    Calls Try.prog 47 #[.pointer (some ⟨r, 0, none⟩), .string k, .string d] w fun e w' => e = .returned (.int .i64 (rputC R (frameB k d))) ∧ RP w w' r eb v (if rputC R (frameB k d) = 0 then L ++ [(k, d)] else L) (rputR R (frameB k d)) := by
  obtain ⟨c0, c1, fz⟩ := h.cells
  have hF := fun w => refframe_any k d hk hd w
  have hfz := frameB_size hk hd
  generalize hfr : frameB k d = fr at *
  clear hfr
  have z0 := Lib.hid (show w.drew.cell? ⟨r, 0, none⟩ = _ from c0)
  have hAp := fun w1 hb => refappend_any eb R fr w1 hok (by omega) hb
  obtain ⟨CC, hCC⟩ : ∃ x, x = rputC R fr := ⟨_, rfl⟩
  obtain ⟨RR, hRR⟩ : ∃ x, x = rputR R fr := ⟨_, rfl⟩
  obtain ⟨LL, hLL⟩ : ∃ x, x = if rputC R fr = 0 then L ++ [(k, d)] else L := ⟨_, rfl⟩
  rw [← hLL, ← hCC, ← hRR]
  have HCC := Lib.hid hCC; clear hCC
  have HRR := Lib.hid hRR; clear hRR
  have HLL := Lib.hid hLL; clear hLL
  have H := Lib.hid h; clear h
  have Hok := Lib.hid hok; clear hok
  have hne := H.out.n1
  by_cases h1 : R.appendC fr = 0
  case neg =>
    have hh1 : (R.appendC fr == 0) = false := by simpa using h1
    have e1 : CC = R.appendC fr := by rw [HCC.out]; unfold rputC; rw [if_neg h1]
    have e2 : RR = R.appendR fr := by rw [HRR.out]; unfold rputR; rw [if_neg h1]
    have e3 : LL = L := by rw [HLL.out, ← HCC.out, e1, if_neg h1]
    clear HCC HRR HLL hoA
    generalize R.appendC fr = c1' at *
    generalize R.appendR fr = R1 at *
    have E1 := Lib.hid e1; have E2 := Lib.hid e2; have E3 := Lib.hid e3; clear e1 e2 e3
    go_enter Try.func47, Try.ntmps47
    go_wp2_with (first
      | ((with_reducible refine Lex.at_finK ?_); refine LexK.finE_on (by kernel_rfl) (by repeat first | exact LexK.finL_nil | refine LexK.finL_none rfl ?_ | refine LexK.finL_skip (by decide +kernel) ?_ | refine LexK.finL_take rfl rfl z0.out ?_) ?_)
      | ((with_reducible refine Lex.at_region ?_); with_reducible refine Lex.wp_region_lex (by kernel_rfl) (by decide +kernel) ?_)
      | ((with_reducible refine Lex.at_fin ?_); with_reducible refine Lex.fin_on (by kernel_rfl) ?_)
      | ((with_reducible refine Lex.at_region ?_); refine LexK.wp_region_lexE (fun x => x = r) (by kernel_rfl) (by decide +kernel) ?_)
      | ((with_reducible refine Lex.at_wpX ?_); with_reducible refine LexK.wpX_plain (by decide +kernel) ?_)
      | ((with_reducible refine Lex.at_wpX ?_); with_reducible refine LexK.wpX_call ?_)
      | ((with_reducible refine Lex.at_wpX ?_); with_reducible refine LexK.wpX_nil ?_)
      | ((with_reducible refine Lex.at_ext ?_); with_reducible refine LexK.ext_on (LexK.Ext.of_below hb1 (Nat.le_refl _)) ?_)
      | ((with_reducible refine Lex.at_ext ?_); with_reducible refine LexK.ext_on (ext_u hU2 hne) ?_)
      | (go_at_call 28; refine (hF _).mono ?_; rintro e w1 ⟨rfl, hb1⟩)
      | (go_at_call 41; refine (hAp _ (H.out.drew.below hb1).dk).mono ?_; rintro e w2 ⟨rfl, hU2⟩; have H2 := Lib.hid ((H.out.drew.below hb1).upd hU2)))
    go_ret
    have e1 := E1.out; have e2 := E2.out; have e3 := E3.out; clear E1 E2 E3; subst e1 e2 e3
    exact ⟨rfl, ⟨v, H2.out, .inl rfl⟩, ((But.refl [r, eb] w).drew.trans (But.of_below hb1)).trans (But.of_upd hU2 (by simp))⟩
  have hok1 := hoA h1
  have hSy := fun w1 hb => refsync_any eb (R.appendR fr) w1 hok1 hb
  by_cases h2 : (R.appendR fr).syncC = 0
  case neg =>
    have hh2 : ((R.appendR fr).syncC == 0) = false := by simpa using h2
    have e1 : CC = (R.appendR fr).syncC := by rw [HCC.out]; unfold rputC; rw [if_pos h1]
    have e2 : RR = (R.appendR fr).syncR := by rw [HRR.out]; unfold rputR; rw [if_pos h1]
    have e3 : LL = L := by rw [HLL.out, ← HCC.out, e1, if_neg h2]
    rw [h1] at hAp
    clear HCC HRR HLL hoA h1 hok1
    generalize R.appendR fr = R1 at *
    generalize R1.syncC = c2' at *
    generalize R1.syncR = R2 at *
    have E1 := Lib.hid e1; have E2 := Lib.hid e2; have E3 := Lib.hid e3; clear e1 e2 e3
    go_enter Try.func47, Try.ntmps47
    go_wp2_with (first
      | ((with_reducible refine Lex.at_finK ?_); refine LexK.finE_on (by kernel_rfl) (by repeat first | exact LexK.finL_nil | refine LexK.finL_none rfl ?_ | refine LexK.finL_skip (by decide +kernel) ?_ | refine LexK.finL_take rfl rfl z0.out ?_) ?_)
      | ((with_reducible refine Lex.at_region ?_); with_reducible refine Lex.wp_region_lex (by kernel_rfl) (by decide +kernel) ?_)
      | ((with_reducible refine Lex.at_fin ?_); with_reducible refine Lex.fin_on (by kernel_rfl) ?_)
      | ((with_reducible refine Lex.at_region ?_); refine LexK.wp_region_lexE (fun x => x = r) (by kernel_rfl) (by decide +kernel) ?_)
      | ((with_reducible refine Lex.at_wpX ?_); with_reducible refine LexK.wpX_plain (by decide +kernel) ?_)
      | ((with_reducible refine Lex.at_wpX ?_); with_reducible refine LexK.wpX_call ?_)
      | ((with_reducible refine Lex.at_wpX ?_); with_reducible refine LexK.wpX_nil ?_)
      | ((with_reducible refine Lex.at_ext ?_); with_reducible refine LexK.ext_on (LexK.Ext.of_below hb1 (Nat.le_refl _)) ?_)
      | ((with_reducible refine Lex.at_ext ?_); with_reducible refine LexK.ext_on (ext_u hU2 hne) ?_)
      | (go_at_call 28; refine (hF _).mono ?_; rintro e w1 ⟨rfl, hb1⟩)
      | (go_at_call 41; refine (hAp _ (H.out.drew.below hb1).dk).mono ?_; rintro e w2 ⟨rfl, hU2⟩; have H2 := Lib.hid ((H.out.drew.below hb1).upd hU2); obtain ⟨d0, d1, fz2⟩ := H2.out.cells)
      | (go_at_call 51; refine (hSy _ H2.out.dk).mono ?_; rintro e w3 ⟨rfl, hU3⟩; have H3 := Lib.hid (H2.out.upd hU3)))
    go_ret
    have e1 := E1.out; have e2 := E2.out; have e3 := E3.out; clear E1 E2 E3; subst e1 e2 e3
    exact ⟨rfl, ⟨v, H3.out, .inl rfl⟩, (((But.refl [r, eb] w).drew.trans (But.of_below hb1)).trans (But.of_upd hU2 (by simp))).trans (But.of_upd hU3 (by simp))⟩
  have e1 : CC = 0 := by rw [HCC.out]; unfold rputC; rw [if_pos h1, h2]
  have e2 : RR = (R.appendR fr).syncR := by rw [HRR.out]; unfold rputR; rw [if_pos h1]
  have e3 : LL = L ++ [(k, d)] := by rw [HLL.out, ← HCC.out, e1, if_pos rfl]
  rw [h1] at hAp
  rw [h2] at hSy
  clear HCC HRR HLL hoA h1 hok1 h2
  generalize R.appendR fr = R1 at *
  generalize R1.syncR = R2 at *
  have E1 := Lib.hid e1; have E2 := Lib.hid e2; have E3 := Lib.hid e3; clear e1 e2 e3
  have Hrl := Lib.hid (heap_lt H.out.blk)
  have Hel := Lib.hid (heap_lt H.out.dk)
  have Hl := Lib.hid (show L.length ≤ 1048576 by omega)
  go_enter Try.func47, Try.ntmps47
  go_wp2_with (first
    | ((with_reducible refine Lex.at_finK ?_); refine LexK.finE_on (by kernel_rfl) (by repeat first | exact LexK.finL_nil | refine LexK.finL_none rfl ?_ | refine LexK.finL_skip (by decide +kernel) ?_ | refine LexK.finL_take rfl rfl z0.out ?_) ?_)
    | ((with_reducible refine Lex.at_region ?_); with_reducible refine Lex.wp_region_lex (by kernel_rfl) (by decide +kernel) ?_)
    | ((with_reducible refine Lex.at_fin ?_); with_reducible refine Lex.fin_on (by kernel_rfl) ?_)
    | ((with_reducible refine Lex.at_region ?_); refine LexK.wp_region_lexE (fun x => x = r) (by kernel_rfl) (by decide +kernel) ?_)
    | ((with_reducible refine Lex.at_wpX ?_); with_reducible refine LexK.wpX_plain (by decide +kernel) ?_)
    | ((with_reducible refine Lex.at_wpX ?_); with_reducible refine LexK.wpX_call ?_)
    | ((with_reducible refine Lex.at_wpX ?_); with_reducible refine LexK.wpX_nil ?_)
    | ((with_reducible refine Lex.at_ext ?_); with_reducible refine LexK.ext_on (LexK.Ext.of_below hb1 (Nat.le_refl _)) ?_)
    | ((with_reducible refine Lex.at_ext ?_); with_reducible refine LexK.ext_on (ext_u hU2 hne) ?_)
    | (go_at_call 28; refine (hF _).mono ?_; rintro e w1 ⟨rfl, hb1⟩)
    | (go_at_call 41; refine (hAp _ (H.out.drew.below hb1).dk).mono ?_; rintro e w2 ⟨rfl, hU2⟩; have H2 := Lib.hid ((H.out.drew.below hb1).upd hU2); obtain ⟨d0, d1, fz2⟩ := H2.out.cells)
    | (go_at_call 51; refine (hSy _ H2.out.dk).mono ?_; rintro e w3 ⟨rfl, hU3⟩; have H3 := Lib.hid (H2.out.upd hU3); obtain ⟨f0, f1, fz3⟩ := H3.out.cells)
    | (at_builtin; first
        | (refine wpList_append_recG rfl (.tmp 33) (.tmp 37) 46 rfl (by kernel_rfl) w3.heap.size w4 _ rfl hb4.size k d _ _ _ rfl Ho4.out Hl.out rfl ?_; intro v5 w5 ho5 hb5 hg5; obtain ⟨p5, c5, rfl⟩ := own_slice ho5; have Ho5 := Lib.hid ho5; clear ho5 hg5; have Hb5 := Lib.hid (hb5 _ hb4); have H5 := Lib.hid (H3.out.below Hb5.out); obtain ⟨g0, g1, fz5⟩ := H5.out.cells)
        | (refine wpList_append_copy rfl (.const (.slice none 0 0)) (.tmp 32) 46 rfl (by kernel_rfl) 0 w3 _ _ _ rfl rfl H3.out.own Hl.out (recCells_one _) ?_; intro v4 w4 ho4 hb4; have Ho4 := Lib.hid ho4; clear ho4)))
  go_ret
  have e1 := E1.out; have e2 := E2.out; have e3 := E3.out; clear E1 E2 E3; subst e1 e2 e3
  have hs3 : w.heap.size ≤ w3.heap.size := by
    have a1 := hb1.size
    have a2 := hU2.size
    have a3 := hU3.size
    have a4 : w.drew.heap.size = w.heap.size := rfl
    omega
  have hU6 := Upd.set (i := 1) (v := .slice p5 (L.length + 1) c5) (Upd.refl H5.out.blk)
  have hge : ∀ g, (Value.slice p5 (L.length + 1) c5).ownBlock = some g → w.heap.size ≤ g := fun g hg => Nat.le_trans hs3 (own_ge Ho5.out g hg)
  have hlen : recCells L ++ [.string k, .string d] = recCells (L ++ [(k, d)]) := (recCells_snoc L (k, d)).symm
  have hown : w5.ownsRow 0 44 2 (.slice p5 (L.length + 1) c5) (L ++ [(k, d)]).length (recCells (L ++ [(k, d)])) := by
    rw [← hlen, List.length_append]; exact ownsRow_zero Ho5.out
  have h6 := H5.out.set (Upd.cast hU6 (by simp)) hown (not_own hge Hrl.out) (not_own hge Hel.out)
  exact ⟨rfl, ⟨_, h6, .inr hge⟩, (((((But.refl [r, eb] w).drew.trans (But.of_below hb1)).trans (But.of_upd hU2 (by simp))).trans (But.of_upd hU3 (by simp))).trans (But.of_below Hb5.out)).trans (But.of_upd hU6 (by simp))⟩
end Go.Proofs.Ytmflngpgmmgohaa
