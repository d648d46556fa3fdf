/-
  Walks: Compact.
-/
import Derived.Test.YtmflngpgmmgohaaUa
import Derived.Test.YtmflngpgmmgohaaVa
import Derived.Test.YtmflngpgmmgohaaVb
namespace Go.Proofs.Ytmflngpgmmgohaa
open Go.RowKit Go.Shelf Go.Sort

theorem keys_val (s : Nat) (S : SM) (nn : Nat) (w : World) (h : StoreAt w s S nn) (hn : nn ≤ 1048576) :
    Calls Try.prog 37 #[.pointer (some ⟨s, 0, none⟩)] w fun e w' => ∃ p cap, e = .returned (.slice p (KS S.D).length cap) ∧ w'.ownsRow w.heap.size 9 1 (.slice p (KS S.D).length cap) (KS S.D).length ((KS S.D).map encStr) ∧ Below w.heap.size w w' := by
  refine (keys_any s S nn w h hn).mono ?_
  rintro e w' ⟨v, ss, rfl, hp, hr, hb⟩
  have h1 : ss.mergeSort (fun x y => decide (x ≤ y)) = KS S.D := mergeSort_of_perm hp
  have h2 : ss.length = (KS S.D).length := by rw [KS, List.length_mergeSort]; exact hp.length_eq
  rw [h1, h2] at hr
  obtain ⟨p, cap, rfl⟩ := ownT_slice hr
  exact ⟨p, cap, rfl, hr, hb⟩

theorem Live.bel {w w' : World} {s nn G b : Nat} {S : SM} {Dk : DM} (h : Live w s S nn Dk) (hb : Bel G b w w') (hG : b ≤ G) (h1 : s < b) (h2 : S.mb < b) (h3 : S.db < b) : Live w' s S nn Dk :=
  h.blocks (hb.block _ (by omega) (by omega)) (hb.block _ (by omega) (by omega)) (hb.block _ (by omega) (by omega))

/-- What the loop of Compact has. -/
structure CI (w w0 : World) (K : List (List UInt8)) (D : MD) (k : Nat) (wr : World) : Prop where
  bld : BY w0.heap.size w.heap.size (framesB ((K.take k).map (recOf D))).data.toList wr
  bel : Bel w0.heap.size w.heap.size w0 wr
  sz : w.heap.size < w0.heap.size

theorem framesB_take {K : List (List UInt8)} {D : MD} {k : Nat} (h : k < K.length) : (framesB ((K.take k).map (recOf D))).data.toList ++ (frameB ⟨(K[k]).toArray⟩ (dataOf D ⟨(K[k]).toArray⟩)).data.toList = (framesB ((K.take (k + 1)).map (recOf D))).data.toList := by
  rw [List.take_succ_eq_append_getElem h, List.map_append, List.map_cons, List.map_nil, framesB_snoc]
  simp [recOf]
theorem ownsRow_bel {w w' : World} {B G b n : Nat} {v : Value} {xs : List Value} (h : w.ownsRow B 9 1 v n xs) (hb : Bel G b w w') (hG : w.heap.size ≤ G) (hB : b < B) : w'.ownsRow B 9 1 v n xs := by
  refine ⟨h.1, ?_⟩
  rcases h.2 with h2 | ⟨g, cap, cur, rfl, h4, h5, h6⟩
  · exact .inl h2
  · refine .inr ⟨g, cap, cur, rfl, h4, ?_, h6⟩
    rw [hb.block g (Nat.lt_of_lt_of_le (heap_lt h5) hG) (by omega)]; exact h5
theorem framesB_le {l m : List Rec} : (framesB l).size ≤ (framesB (l ++ m)).size := by rw [framesB_append, ByteArray.size_append]; omega

def BZ (b : Nat) (l : List UInt8) (w : World) : Prop := Lib.IsBuilderF 99 5 b b (Lib.byteCells l) w
theorem blen_any (b : Nat) (l : List UInt8) (w : World) (h : BZ b l w) : Calls Try.prog 66 #[.pointer (some ⟨b, 0, none⟩)] w fun e w' => e = .returned (.int .i64 l.length) ∧ w' = w := by
  have := Try.Builder_Len_f b b _ w h
  rwa [Lib.byteCells_length] at this
theorem bstr_any (b : Nat) (l : List UInt8) (w : World) (h : BZ b l w) (hw : b ≤ w.heap.size) : Calls Try.prog 67 #[.pointer (some ⟨b, 0, none⟩)] w fun e w' => e = .returned (.string ⟨l.toArray⟩) ∧ BZ b l w' ∧ Below b w w' := Try.Builder_String_any_f b b l w h hw
theorem atF_upd {b db : Nat} {p : Value} {l : List Value} {o : Obj} {w w' : World} (h : Lib.BuilderAtF 99 5 b b p l w) (hu : Upd db o w w') (hd : db < b) : Lib.BuilderAtF 99 5 b b p l w' := by
  obtain ⟨hB, v, hb, hown, hne⟩ := h
  exact ⟨hB, v, (hu.other _ (by omega)).trans hb, hown.kept (row := some db) ⟨hu.os, hu.tape, hu.output, by rw [hu.size]; exact Nat.le_refl _, fun k _ hk => hu.other k (fun e => hk (by rw [e]))⟩ (Or.inr (fun e => by have := (hown.lt _ e).1; omega)), hne⟩
theorem BZ.upd {b db : Nat} {l : List UInt8} {o : Obj} {w w' : World} (h : BZ b l w) (hu : Upd db o w w') (hd : db < b) : BZ b l w' := h.elim (fun h => .inl (atF_upd h hu hd)) (fun h => .inr (atF_upd h hu hd))
theorem BZ.drew {b : Nat} {l : List UInt8} {w : World} (h : BZ b l w) : BZ b l w.drew := h
theorem BY.below {G b : Nat} {l : List UInt8} {w w' : World} (h : BY G b l w) (hb : Below w.heap.size w w') : BY G b l w' := by
  have key : ∀ p, BX G b p l w → BX G b p l w' := by
    rintro p ⟨v, h1, h2, h3⟩
    refine ⟨v, (hb.block _ (heap_lt h1)).trans h1, ?_, h3⟩
    exact h2.kept (row := none) ⟨hb.os, hb.tape, hb.output, hb.size, fun k hk _ => hb.block k hk⟩ (by cases hv : v.ownBlock <;> simp)
  exact h.elim (fun h => .inl (key _ h)) (fun h => .inr (key _ h))
theorem ext_b {n B : Nat} {w w' : World} (h : Below B w w') (hn : n < B) : LexK.Ext (fun x => x = n) w w' := ⟨h.size, fun i _ hi => h.block i (by subst hi; exact hn)⟩
theorem ext_u {n b : Nat} {o : Obj} {w w' : World} (h : Upd b o w w') (hn : n ≠ b) : LexK.Ext (fun x => x = n) w w' := ⟨by rw [h.size]; exact Nat.le_refl _, fun i _ hi => h.other i (by subst hi; exact hn)⟩

/-- All blocks below b but db are as they were. -/
structure Bd (b db : Nat) (w w' : World) : Prop where
  os : w'.os = w.os
  tape : w'.tape = w.tape
  output : w'.output = w.output
  size : w.heap.size ≤ w'.heap.size
  block : ∀ k, k < b → k ≠ db → w'.heap[k]? = w.heap[k]?
theorem Bd.of {b db : Nat} {w w' : World} (h : Below b w w') : Bd b db w w' := ⟨h.os, h.tape, h.output, h.size, fun k hk _ => h.block k hk⟩
theorem Bd.below {b db : Nat} {w w1 w2 : World} (h : Bd b db w w1) (k : Below b w1 w2) : Bd b db w w2 := ⟨k.os.trans h.os, k.tape.trans h.tape, k.output.trans h.output, Nat.le_trans h.size k.size, fun i hi hn => (k.block i hi).trans (h.block i hi hn)⟩
theorem Bd.drew {b db : Nat} {w w1 : World} (h : Bd b db w w1) : Bd b db w w1.drew := ⟨h.os, h.tape, h.output, h.size, h.block⟩
theorem Bd.upd {b db : Nat} {o : Obj} {w w1 w2 : World} (h : Bd b db w w1) (hu : Upd db o w1 w2) : Bd b db w w2 := ⟨hu.os.trans h.os, hu.tape.trans h.tape, hu.output.trans h.output, by rw [hu.size]; exact h.size, fun i hi hn => (hu.other i hn).trans (h.block i hi hn)⟩
theorem Bd.but {db s : Nat} {w w1 : World} (h : Bd w.heap.size db w w1) : But [s, db] w w1 := ⟨h.os, h.tape, h.output, h.size, fun i hi hn => h.block i hi (by simp at hn; omega)⟩
theorem Live.lowB {b : Nat} {w w' : World} {s nn : Nat} {S : SM} {Dk : DM} (h : Live w s S nn Dk) (hb : Below b w w') (h1 : s < b) (h2 : S.mb < b) (h3 : S.db < b) : Live w' s S nn Dk := h.blocks (hb.block _ h1) (hb.block _ h2) (hb.block _ h3)

set_option maxRecDepth 100000 in
set_option maxHeartbeats 16000000 in
theorem compact_any (s : Nat) (S : SM) (nn : Nat) (Dk : DM) (w : World) (h : Live w s S nn Dk) (hn : nn ≤ 1048576) (hok : Dk.Ok) (hsm : Small (comp S.D)) (hT : (framesB (comp S.D)).size ≤ 1099511627776) (hsz : S.size ≤ 1099511627776) :
    Calls Try.prog 39 #[.pointer (some ⟨s, 0, none⟩)] w fun e w' =>
      (S.size ≤ (framesB (comp S.D)).size ∧ e = .returned (.int .i64 0) ∧ Live w' s S nn Dk ∧ But [s, S.db] w w') ∨
      ((framesB (comp S.D)).size < S.size ∧ e = .returned (.int .i64 (compC Dk (framesB (comp S.D)))) ∧ Live w' s (if compC Dk (framesB (comp S.D)) = 0 then { S with n := Maps.size S.D, size := (framesB (comp S.D)).size } else S) nn (compDk Dk (framesB (comp S.D))) ∧ But [s, S.db] w w') := by
  obtain ⟨db, mb, n, size, D⟩ := S
  dsimp only at *
  have hKd : comp D = (KS D).map (recOf D) := rfl
  have hKl : (KS D).length ≤ 1048576 := by rw [(ownsS_tid h.st.own).length]; exact Nat.le_trans (World.ownsMap.size_le h.st.own) hn
  have hT1 : ∀ k, (framesB (((KS D).take k).map (recOf D))).size ≤ 1099511627776 := fun k => by
    have := framesB_le (l := ((KS D).take k).map (recOf D)) (m := ((KS D).drop k).map (recOf D))
    rw [← List.map_append, List.take_append_drop, ← hKd] at this; omega
  have hTe : (framesB (((KS D).take (KS D).length).map (recOf D))).data.toList = (framesB (comp D)).data.toList := by rw [List.take_length]; rfl
  have hS1 : ∀ k (h : k < (KS D).length), (ByteArray.mk ((KS D)[k]).toArray).size ≤ 65536 ∧ (dataOf D ⟨((KS D)[k]).toArray⟩).size ≤ 65536 := fun k h => hsm (recOf D (KS D)[k]) (List.mem_map.2 ⟨_, List.getElem_mem h, rfl⟩)
  have hb0 : Below w.heap.size w (w.alloc (.cells #[.pointer none, .slice none 0 0] 99)) := (Below.refl _ _).alloc (Nat.le_refl _) _
  have hn0 := heap_alloc_new w (.cells #[.pointer none, .slice none 0 0] 99)
  have hs0 : (w.alloc (.cells #[.pointer none, .slice none 0 0] 99)).heap.size = w.heap.size + 1 := by simp
  have hlv := h.below hb0
  have ls := heap_lt h.st.blk
  have lm := ownsS_lt h.st.own
  have ld := heap_lt h.dk
  have hnes := h.st.ne2
  dsimp only at ls lm ld hnes
  have hKv := keys_val s ⟨db, mb, n, size, D⟩ nn _ hlv.st hn
  dsimp only at hKv
  obtain ⟨c0, c1, c2, c3, fz⟩ := cells4 h.st.blk
  have HL := Lib.hid hlv; clear hlv
  have Hn0 := Lib.hid hn0; clear hn0
  have Hb0 := Lib.hid hb0; clear hb0
  have Hs0 := Lib.hid hs0; clear hs0
  have H := Lib.hid h; clear h
  have Hok := Lib.hid hok; clear hok
  have HTe := Lib.hid hTe; clear hTe
  have HS1 := Lib.hid hS1; clear hS1
  have HT1 := Lib.hid hT1; clear hT1 hKd
  clear hsm
  generalize hTT : framesB (comp D) = T at *
  have HTT := Lib.hid hTT; clear hTT
  generalize hK : KS D = K at *
  have HK := Lib.hid hK; clear hK
  obtain ⟨CC, hCC⟩ : ∃ x, x = compC Dk T := ⟨_, rfl⟩
  obtain ⟨DD, hDD⟩ : ∃ x, x = compDk Dk T := ⟨_, rfl⟩
  obtain ⟨SS, hSS⟩ : ∃ x : SM, x = if compC Dk T = 0 then ⟨db, mb, Maps.size D, T.size, D⟩ else ⟨db, mb, n, size, D⟩ := ⟨_, rfl⟩
  rw [← hSS, ← hCC, ← hDD]
  have HCC := Lib.hid hCC; clear hCC
  have HDD := Lib.hid hDD; clear hDD
  have HSS := Lib.hid hSS; clear hSS
  go_enter Try.func39, Try.ntmps39
  go_upto_region 4 with fail
  generalize w.alloc (.cells #[.pointer none, .slice none 0 0] 99) = wa at *
  go_wp2_with (first
    | (go_at_call 37; refine hKv.mono ?_; rintro e w0 ⟨p, cap, rfl, hrow, hb1⟩; have Hrow := Lib.hid hrow; clear hrow))
  have hsz0 := hb1.size
  have hs0 := Hs0.out
  go_loopw [14] (fun i wr => ∃ k : Nat, i = .int .i64 k ∧ k ≤ K.length ∧ CI w w0 K D k wr) (fun i _ => K.length - (intOf i).toNat)
  case atStart =>
    exact ⟨0, rfl, by omega, ⟨.inl ⟨.slice none 0 0, (hb1.block _ (heap_lt Hn0.out)).trans Hn0.out, ⟨rfl, .inl ⟨rfl, rfl⟩⟩, by simp [Value.ownBlock]⟩, Bel.refl _ _ _, by omega⟩⟩
  case round =>
    obtain ⟨k, rfl, hk, hci⟩ := hrel
    have hbl := hci.bel
    have hlr := ((HL.out.below hb1).bel hbl (by omega) ls lm ld)
    have hszr := hbl.size
    by_cases hlt : k < K.length
    · have o := ownsRow_bel Hrow.out hbl (Nat.le_refl _) (by omega)
      obtain ⟨g, rfl⟩ := ownT_ptr o (by omega)
      have x0 := ownT_cell o hlt
      obtain ⟨z1, z2⟩ := HS1.out k hlt
      have hft := framesB_take (D := D) hlt
      have hfk := HT1.out k
      have hfr := frame_any ⟨(K[k]).toArray⟩ (dataOf D ⟨(K[k]).toArray⟩) z1 z2
      have hfz := frameB_size z1 z2
      obtain ⟨v, ps, hrun, hv⟩ := World.ownsMap.lookup (t := 89) (e := 9) hlr.st.own keyed9 (by kernel_rfl) (zero9 wr) (elem9 (by decide)) (key9 (k := ⟨(K[k]).toArray⟩) (by omega))
      obtain ⟨v, rfl, hv2⟩ := elem9_inv hv
      obtain rfl := dataOf_eq hv2
      dsimp only at hrun
      have hBY := hci.bld
      generalize dataOf D ⟨(K[k]).toArray⟩ = dv at *
      generalize (ByteArray.mk (K[k]).toArray) = kk at *
      generalize (framesB ((K.take k).map (recOf D))) = A at *
      generalize hA1 : (framesB ((K.take (k + 1)).map (recOf D))) = A1 at *
      have HA1 := Lib.hid hA1; clear hA1
      generalize frameB kk dv = fr at *
      obtain ⟨d0, d1, d2, d3, fz1⟩ := cells4 hlr.st.blk
      dsimp only at d0 d1 d2 d3
      have HBY := Lib.hid hBY; clear hBY
      have Hft := Lib.hid hft; clear hft
      have Hbl := Lib.hid hbl; clear hbl
      clear hci hv hv2 hlr o
      have e0 : A.data.toList.length = A.size := by simp
      have HLEN := Lib.hid (show A.data.toList.length + fr.size ≤ 140737488355328 by omega)
      clear e0
      have HGL := Lib.hid (show w0.heap.size ≤ wr.heap.size from hszr)
      go_wp2_with (first
        | (go_at_call 27; refine (hfr _).mono ?_; rintro e w2 ⟨rfl, hb2⟩)
        | (go_at_call 65; go_loud (refine (wstr_any w0.heap.size w.heap.size A.data.toList fr _ (BY.below HBY.out hb2) HLEN.out (Nat.le_trans HGL.out hb2.size)).mono ?_; rintro e w3 ⟨rfl, hx3, hb3⟩; have HX3 := Lib.hid hx3; clear hx3)))
      have hb23 := (Bel.of_below (b := w.heap.size) hb2 HGL.out).trans hb3
      refine ⟨⟨k + 1, by go_num, by omega, ⟨.inr ?_, Hbl.out.trans hb23, by omega⟩⟩, by simp [intOf]; omega⟩
      have hfin := HX3.out
      rw [Hft.out, ← HA1.out] at hfin
      exact hfin
    · obtain rfl : k = K.length := by omega
      have hZ0 := hci.bld.is (by omega)
      rw [HTe.out] at hZ0
      have HZ := Lib.hid (show BZ w.heap.size T.data.toList wr from hZ0); clear hZ0
      have hTl : (T.data.toList.length : Int) = T.size := by simp
      have hTa : (ByteArray.mk T.data.toList.toArray) = T := by simp
      have hLen := fun w1 (h : BZ w.heap.size T.data.toList w1) => blen_any _ _ w1 h
      rw [hTl] at hLen
      have hStr := fun w1 (h : BZ w.heap.size T.data.toList w1) (h2 : w.heap.size ≤ w1.heap.size) => bstr_any _ _ w1 h h2
      rw [hTa] at hStr
      clear hTl hTa
      obtain ⟨d0, d1, d2, d3, fz1⟩ := cells4 hlr.st.blk
      dsimp only at d0 d1 d2 d3
      have hBw : Below w.heap.size w wr := (Hb0.out.trans (hb1.mono (by omega))).trans (hbl.below (by omega))
      have HLr := Lib.hid hlr; clear hlr
      have HBw := Lib.hid hBw; clear hBw
      have hTr := fun w1 hb => trunc_any db Dk 0 w1 Hok.out hb
      have z9 := Lib.hid (show wr.drew.cell? ⟨s, 3, none⟩ = _ from d3)
      have HW := Lib.hid (show ∀ w2, Upd db (Dk.truncD 0).obj wr.drew w2 → w.heap.size ≤ w2.drew.heap.size from fun w2 hu => by show _ ≤ w2.heap.size; rw [hu.size]; show _ ≤ wr.heap.size; omega)
      clear hci hbl
      by_cases hge : (size : Int) ≤ T.size
      · have z4 := z9
        go_wp2_with (first
          | ((with_reducible refine at_finK ?_); refine LexK.finE_on (by kernel_rfl) (by repeat first | exact LexK.finL_nil | refine LexK.finL_none rfl ?_ | refine LexK.finL_skip (by decide +kernel) ?_ | refine LexK.finL_take rfl rfl z9.out ?_ | refine LexK.finL_take rfl rfl z4.out ?_) ?_)
          | ((with_reducible refine at_region ?_); with_reducible refine Lex.wp_region_lex (by kernel_rfl) (by decide +kernel) ?_)
          | ((with_reducible refine at_fin ?_); with_reducible refine Lex.fin_on (by kernel_rfl) ?_)
          | ((with_reducible refine at_region ?_); refine LexK.wp_region_lexE (fun x => x = s) (by kernel_rfl) (by decide +kernel) ?_)
          | ((with_reducible refine at_wpX ?_); with_reducible refine LexK.wpX_plain (by decide +kernel) ?_)
          | ((with_reducible refine at_wpX ?_); with_reducible refine LexK.wpX_call ?_)
          | ((with_reducible refine at_wpX ?_); with_reducible refine LexK.wpX_nil ?_)
          | ((with_reducible refine at_ext ?_); with_reducible refine LexK.ext_on (LexK.Ext.of_below (Below.refl _ _) (Nat.le_refl _)) ?_)
          | (go_at_call 66; (refine (hLen _ HZ.out.drew).mono ?_; rintro e wl ⟨rfl, rfl⟩)))
        go_ret
        exact .inl ⟨by omega, rfl, HLr.out.drew, But.of_below (HBw.out.drew)⟩
      have hlt : T.size < size := by omega
      by_cases h1 : Dk.truncC 0 = 0
      case neg =>
        have hh1 : (Dk.truncC 0 == 0) = false := by simpa using h1
        have e1 : CC = Dk.truncC 0 := by rw [HCC.out]; unfold compC; rw [if_neg h1]
        have e2 : DD = Dk.truncD 0 := by rw [HDD.out]; unfold compDk; rw [if_neg h1]
        have e3 : SS = ⟨db, mb, n, size, D⟩ := by rw [HSS.out, ← HCC.out, e1, if_neg h1]
        clear HCC HDD HSS
        generalize Dk.truncC 0 = c1 at *
        generalize Dk.truncD 0 = D1 at *
        have E1 := Lib.hid e1; have E2 := Lib.hid e2; have E3 := Lib.hid e3; clear e1 e2 e3
        go_wp2_with (first
          | ((with_reducible refine at_finK ?_); refine LexK.finE_on (by kernel_rfl) (by repeat first | exact LexK.finL_nil | refine LexK.finL_none rfl ?_ | refine LexK.finL_skip (by decide +kernel) ?_ | refine LexK.finL_take rfl rfl z9.out ?_ | refine LexK.finL_take rfl rfl z4.out ?_) ?_)
          | ((with_reducible refine at_region ?_); with_reducible refine Lex.wp_region_lex (by kernel_rfl) (by decide +kernel) ?_)
          | ((with_reducible refine at_fin ?_); with_reducible refine Lex.fin_on (by kernel_rfl) ?_)
          | ((with_reducible refine at_region ?_); refine LexK.wp_region_lexE (fun x => x = s) (by kernel_rfl) (by decide +kernel) ?_)
          | ((with_reducible refine at_wpX ?_); with_reducible refine LexK.wpX_plain (by decide +kernel) ?_)
          | ((with_reducible refine at_wpX ?_); with_reducible refine LexK.wpX_call ?_)
          | ((with_reducible refine at_wpX ?_); with_reducible refine LexK.wpX_nil ?_)
          | ((with_reducible refine at_ext ?_); with_reducible refine LexK.ext_on (LexK.Ext.of_below (Below.refl _ _) (Nat.le_refl _)) ?_)
          | (go_at_call 66; (refine (hLen _ HZ.out.drew).mono ?_; rintro e wl ⟨rfl, rfl⟩))
          | (go_at_call 23; refine (hTr _ HLr.out.drew.dk).mono ?_; rintro e w2 ⟨rfl, hU2⟩; have HL2 := Lib.hid (HLr.out.drew.upd hU2); obtain ⟨e0, e1, e2, e3, fz2⟩ := cells4 HL2.out.st.blk; dsimp only at e0 e1 e2 e3; have HZ2 := Lib.hid (BZ.upd HZ.out.drew hU2 ld); have z4 := Lib.hid (show w2.drew.cell? ⟨s, 0, none⟩ = _ from e0)))
        go_ret
        have e1 := E1.out; have e2 := E2.out; have e3 := E3.out; clear E1 E2 E3; subst e1 e2 e3
        exact .inr ⟨hlt, rfl, HL2.out, ((Bd.of HBw.out.drew).upd hU2).but⟩
      have hok1 := Hok.out.truncOk h1
      have hAp := fun w1 hb => append_any db (Dk.truncD 0) T w1 hok1 (by omega) hb
      by_cases h2 : (Dk.truncD 0).appendC T = 0
      case neg =>
        have hh2 : ((Dk.truncD 0).appendC T == 0) = false := by simpa using h2
        have e1 : CC = (Dk.truncD 0).appendC T := by rw [HCC.out]; unfold compC; rw [if_pos h1, if_neg h2]
        have e2 : DD = (Dk.truncD 0).appendD T := by rw [HDD.out]; unfold compDk; rw [if_pos h1, if_neg h2]
        have e3 : SS = ⟨db, mb, n, size, D⟩ := by rw [HSS.out, ← HCC.out, e1, if_neg h2]
        clear HCC HDD HSS
        rw [h1] at hTr
        clear h1 hok1
        generalize Dk.truncD 0 = D1 at *
        generalize D1.appendC T = c2 at *
        generalize D1.appendD T = D2 at *
        have E1 := Lib.hid e1; have E2 := Lib.hid e2; have E3 := Lib.hid e3; clear e1 e2 e3
        go_wp2_with (first
          | ((with_reducible refine at_finK ?_); refine LexK.finE_on (by kernel_rfl) (by repeat first | exact LexK.finL_nil | refine LexK.finL_none rfl ?_ | refine LexK.finL_skip (by decide +kernel) ?_ | refine LexK.finL_take rfl rfl z9.out ?_ | refine LexK.finL_take rfl rfl z4.out ?_) ?_)
          | ((with_reducible refine at_region ?_); with_reducible refine Lex.wp_region_lex (by kernel_rfl) (by decide +kernel) ?_)
          | ((with_reducible refine at_fin ?_); with_reducible refine Lex.fin_on (by kernel_rfl) ?_)
          | ((with_reducible refine at_region ?_); refine LexK.wp_region_lexE (fun x => x = s) (by kernel_rfl) (by decide +kernel) ?_)
          | ((with_reducible refine at_wpX ?_); with_reducible refine LexK.wpX_plain (by decide +kernel) ?_)
          | ((with_reducible refine at_wpX ?_); with_reducible refine LexK.wpX_call ?_)
          | ((with_reducible refine at_wpX ?_); with_reducible refine LexK.wpX_nil ?_)
          | ((with_reducible refine at_ext ?_); with_reducible refine LexK.ext_on (LexK.Ext.of_below (Below.refl _ _) (Nat.le_refl _)) ?_)
          | (go_at_call 66; (refine (hLen _ HZ.out.drew).mono ?_; rintro e wl ⟨rfl, rfl⟩))
          | (go_at_call 23; refine (hTr _ HLr.out.drew.dk).mono ?_; rintro e w2 ⟨rfl, hU2⟩; have HL2 := Lib.hid (HLr.out.drew.upd hU2); obtain ⟨e0, e1, e2, e3, fz2⟩ := cells4 HL2.out.st.blk; dsimp only at e0 e1 e2 e3; have HZ2 := Lib.hid (BZ.upd HZ.out.drew hU2 ld); have z4 := Lib.hid (show w2.drew.cell? ⟨s, 0, none⟩ = _ from e0))
          | ((with_reducible refine at_ext ?_); with_reducible refine LexK.ext_on (ext_b hb3 ls) ?_)
          | ((with_reducible refine at_ext ?_); with_reducible refine LexK.ext_on (ext_u hU4 hnes) ?_)
          | (go_at_call 67; refine (hStr _ HZ2.out.drew (HW.out _ hU2)).mono ?_; rintro e w3 ⟨rfl, hz3, hb3⟩; have HZ3 := Lib.hid hz3; clear hz3; have HL3 := Lib.hid (HL2.out.drew.lowB hb3 ls lm ld))
          | (go_at_call 12; refine (hAp _ HL3.out.dk).mono ?_; rintro e w4 ⟨rfl, hU4⟩; have HL4 := Lib.hid (HL3.out.upd hU4); obtain ⟨f0, f1, f2, f3, fz4⟩ := cells4 HL4.out.st.blk; dsimp only at f0 f1 f2 f3; have HZ4 := Lib.hid (BZ.upd HZ3.out hU4 ld)))
        go_ret
        have e1 := E1.out; have e2 := E2.out; have e3 := E3.out; clear E1 E2 E3; subst e1 e2 e3
        exact .inr ⟨hlt, rfl, HL4.out, ((((Bd.of HBw.out.drew).upd hU2).drew.below hb3).upd hU4).but⟩
      have hok2 := hok1.appendOk h2
      have hSy := fun w1 hb => sync_any db ((Dk.truncD 0).appendD T) w1 hok2 hb
      by_cases h3 : ((Dk.truncD 0).appendD T).syncC = 0
      case neg =>
        have hh3 : (((Dk.truncD 0).appendD T).syncC == 0) = false := by simpa using h3
        have e1 : CC = ((Dk.truncD 0).appendD T).syncC := by rw [HCC.out]; unfold compC; rw [if_pos h1, if_pos h2]
        have e2 : DD = ((Dk.truncD 0).appendD T).syncD := by rw [HDD.out]; unfold compDk; rw [if_pos h1, if_pos h2]
        have e3 : SS = ⟨db, mb, n, size, D⟩ := by rw [HSS.out, ← HCC.out, e1, if_neg h3]
        clear HCC HDD HSS
        rw [h1] at hTr
        rw [h2] at hAp
        clear h1 hok1 h2 hok2
        generalize Dk.truncD 0 = D1 at *
        generalize D1.appendD T = D2 at *
        generalize D2.syncC = c3' at *
        generalize D2.syncD = D3 at *
        have E1 := Lib.hid e1; have E2 := Lib.hid e2; have E3 := Lib.hid e3; clear e1 e2 e3
        go_wp2_with (first
          | ((with_reducible refine at_finK ?_); refine LexK.finE_on (by kernel_rfl) (by repeat first | exact LexK.finL_nil | refine LexK.finL_none rfl ?_ | refine LexK.finL_skip (by decide +kernel) ?_ | refine LexK.finL_take rfl rfl z9.out ?_ | refine LexK.finL_take rfl rfl z4.out ?_) ?_)
          | ((with_reducible refine at_region ?_); with_reducible refine Lex.wp_region_lex (by kernel_rfl) (by decide +kernel) ?_)
          | ((with_reducible refine at_fin ?_); with_reducible refine Lex.fin_on (by kernel_rfl) ?_)
          | ((with_reducible refine at_region ?_); refine LexK.wp_region_lexE (fun x => x = s) (by kernel_rfl) (by decide +kernel) ?_)
          | ((with_reducible refine at_wpX ?_); with_reducible refine LexK.wpX_plain (by decide +kernel) ?_)
          | ((with_reducible refine at_wpX ?_); with_reducible refine LexK.wpX_call ?_)
          | ((with_reducible refine at_wpX ?_); with_reducible refine LexK.wpX_nil ?_)
          | ((with_reducible refine at_ext ?_); with_reducible refine LexK.ext_on (LexK.Ext.of_below (Below.refl _ _) (Nat.le_refl _)) ?_)
          | (go_at_call 66; (refine (hLen _ HZ.out.drew).mono ?_; rintro e wl ⟨rfl, rfl⟩))
          | (go_at_call 23; refine (hTr _ HLr.out.drew.dk).mono ?_; rintro e w2 ⟨rfl, hU2⟩; have HL2 := Lib.hid (HLr.out.drew.upd hU2); obtain ⟨e0, e1, e2, e3, fz2⟩ := cells4 HL2.out.st.blk; dsimp only at e0 e1 e2 e3; have HZ2 := Lib.hid (BZ.upd HZ.out.drew hU2 ld); have z4 := Lib.hid (show w2.drew.cell? ⟨s, 0, none⟩ = _ from e0))
          | ((with_reducible refine at_ext ?_); with_reducible refine LexK.ext_on (ext_b hb3 ls) ?_)
          | ((with_reducible refine at_ext ?_); with_reducible refine LexK.ext_on (ext_u hU4 hnes) ?_)
          | (go_at_call 67; refine (hStr _ HZ2.out.drew (HW.out _ hU2)).mono ?_; rintro e w3 ⟨rfl, hz3, hb3⟩; have HZ3 := Lib.hid hz3; clear hz3; have HL3 := Lib.hid (HL2.out.drew.lowB hb3 ls lm ld))
          | (go_at_call 12; refine (hAp _ HL3.out.dk).mono ?_; rintro e w4 ⟨rfl, hU4⟩; have HL4 := Lib.hid (HL3.out.upd hU4); obtain ⟨f0, f1, f2, f3, fz4⟩ := cells4 HL4.out.st.blk; dsimp only at f0 f1 f2 f3; have HZ4 := Lib.hid (BZ.upd HZ3.out hU4 ld))
          | (go_at_call 22; refine (hSy _ HL4.out.dk).mono ?_; rintro e w5 ⟨rfl, hU5⟩; have HL5 := Lib.hid (HL4.out.upd hU5); obtain ⟨g0, g1, g2, g3, fz5⟩ := cells4 HL5.out.st.blk; dsimp only at g0 g1 g2 g3; have HZ5 := Lib.hid (BZ.upd HZ4.out hU5 ld); have hml := World.ownsMap.len (t := 89) (e := 9) HL5.out.st.own (by kernel_rfl) 3))
        go_ret
        have e1 := E1.out; have e2 := E2.out; have e3 := E3.out; clear E1 E2 E3; subst e1 e2 e3
        exact .inr ⟨hlt, rfl, HL5.out, (((((Bd.of HBw.out.drew).upd hU2).drew.below hb3).upd hU4).upd hU5).but⟩
      have e1 : CC = 0 := by rw [HCC.out]; unfold compC; rw [if_pos h1, if_pos h2, h3]
      have e2 : DD = ((Dk.truncD 0).appendD T).syncD := by rw [HDD.out]; unfold compDk; rw [if_pos h1, if_pos h2]
      have e3 : SS = ⟨db, mb, Maps.size D, T.size, D⟩ := by rw [HSS.out, ← HCC.out, e1, if_pos rfl]
      clear HCC HDD HSS
      rw [h1] at hTr
      rw [h2] at hAp
      rw [h3] at hSy
      clear h1 hok1 h2 hok2 h3
      generalize Dk.truncD 0 = D1 at *
      generalize D1.appendD T = D2 at *
      generalize D2.syncD = D3 at *
      have E1 := Lib.hid e1; have E2 := Lib.hid e2; have E3 := Lib.hid e3; clear e1 e2 e3
      go_wp2_with (first
        | ((with_reducible refine at_finK ?_); refine LexK.finE_on (by kernel_rfl) (by repeat first | exact LexK.finL_nil | refine LexK.finL_none rfl ?_ | refine LexK.finL_skip (by decide +kernel) ?_ | refine LexK.finL_take rfl rfl z9.out ?_ | refine LexK.finL_take rfl rfl z4.out ?_) ?_)
        | ((with_reducible refine at_region ?_); with_reducible refine Lex.wp_region_lex (by kernel_rfl) (by decide +kernel) ?_)
        | ((with_reducible refine at_fin ?_); with_reducible refine Lex.fin_on (by kernel_rfl) ?_)
        | ((with_reducible refine at_region ?_); refine LexK.wp_region_lexE (fun x => x = s) (by kernel_rfl) (by decide +kernel) ?_)
        | ((with_reducible refine at_wpX ?_); with_reducible refine LexK.wpX_plain (by decide +kernel) ?_)
        | ((with_reducible refine at_wpX ?_); with_reducible refine LexK.wpX_call ?_)
        | ((with_reducible refine at_wpX ?_); with_reducible refine LexK.wpX_nil ?_)
        | ((with_reducible refine at_ext ?_); with_reducible refine LexK.ext_on (LexK.Ext.of_below (Below.refl _ _) (Nat.le_refl _)) ?_)
        | (go_at_call 66; first | (have q5 := hU5; refine (hLen _ HZ5.out).mono ?_; rintro e wm ⟨rfl, rfl⟩) | (refine (hLen _ HZ.out.drew).mono ?_; rintro e wl ⟨rfl, rfl⟩))
        | (go_at_call 23; refine (hTr _ HLr.out.drew.dk).mono ?_; rintro e w2 ⟨rfl, hU2⟩; have HL2 := Lib.hid (HLr.out.drew.upd hU2); obtain ⟨e0, e1, e2, e3, fz2⟩ := cells4 HL2.out.st.blk; dsimp only at e0 e1 e2 e3; have HZ2 := Lib.hid (BZ.upd HZ.out.drew hU2 ld); have z4 := Lib.hid (show w2.drew.cell? ⟨s, 0, none⟩ = _ from e0))
        | ((with_reducible refine at_ext ?_); with_reducible refine LexK.ext_on (ext_b hb3 ls) ?_)
        | ((with_reducible refine at_ext ?_); with_reducible refine LexK.ext_on (ext_u hU4 hnes) ?_)
        | (go_at_call 67; refine (hStr _ HZ2.out.drew (HW.out _ hU2)).mono ?_; rintro e w3 ⟨rfl, hz3, hb3⟩; have HZ3 := Lib.hid hz3; clear hz3; have HL3 := Lib.hid (HL2.out.drew.lowB hb3 ls lm ld))
        | (go_at_call 12; refine (hAp _ HL3.out.dk).mono ?_; rintro e w4 ⟨rfl, hU4⟩; have HL4 := Lib.hid (HL3.out.upd hU4); obtain ⟨f0, f1, f2, f3, fz4⟩ := cells4 HL4.out.st.blk; dsimp only at f0 f1 f2 f3; have HZ4 := Lib.hid (BZ.upd HZ3.out hU4 ld))
        | (go_at_call 22; refine (hSy _ HL4.out.dk).mono ?_; rintro e w5 ⟨rfl, hU5⟩; have HL5 := Lib.hid (HL4.out.upd hU5); obtain ⟨g0, g1, g2, g3, fz5⟩ := cells4 HL5.out.st.blk; dsimp only at g0 g1 g2 g3; have HZ5 := Lib.hid (BZ.upd HZ4.out hU5 ld); have hml := World.ownsMap.len (t := 89) (e := 9) HL5.out.st.own (by kernel_rfl) 3))
      go_ret
      have e1 := E1.out; have e2 := E2.out; have e3 := E3.out; clear E1 E2 E3; subst e1 e2 e3
      have hU6 := Upd.set (i := 3) (v := .int .i64 (T.size : Int)) (Upd.set (i := 2) (v := .int .i64 (Maps.size D : Int)) (Upd.refl HL5.out.st.blk))
      have hL6 := HL5.out.storeUpd (n := Maps.size D) (size := T.size) (Upd.cast hU6 (by simp))
      exact .inr ⟨hlt, rfl, hL6, (((((Bd.of HBw.out.drew).upd hU2).drew.below hb3).upd hU4).upd hU5).but.trans (But.of_upd hU6 (by simp))⟩
end Go.Proofs.Ytmflngpgmmgohaa
