/- MemberMergesSaid holds: for all numbers drawn from, the law answers true; no condition. -/
import Derived.Test.YtjgldaaofdpcgaaGreatRows
import Derived.WalkKit
import Derived.ProofKit
import Derived.OpenShut
import Derived.ShutString
import Derived.Below
import Derived.ChangeOld
import Derived.Test.YtjgldaaofdpcgaaGreatU04
import Derived.Test.YtjgldaaofdpcgaaGreatU48
set_option linter.unusedVariables false
set_option linter.unusedSimpArgs false
namespace Go.Proofs.YtjgldaaofdpcgaaGreat
open Go.RowKit Go.Ident
set_option maxRecDepth 100000
theorem ts_rw {w : World} {p : Option Addr} {n c : Nat} {r : Value} {T : Ty} (h : TS w (.agg #[.slice p n c, r]) T) : Rw w p c 8 T.nodes (NC w) := by
  obtain ⟨p', c', e, h, -⟩ := h
  simp at e
  obtain ⟨⟨e1, -, e3⟩, -⟩ := e
  subst e1 e3
  exact h
theorem dt_sz {n : Nat} {T : Ty} (h : TD n T) (hn : n ≤ 1000) : SzT T := by
  have hl := h.len
  refine ⟨by unfold Ty.len; omega, fun x hx => ?_⟩
  obtain ⟨j, hj, rfl⟩ := List.mem_iff_getElem.1 hx
  have := h.at' j hj
  exact ⟨Nat.le_trans this.kids (by decide), Nat.le_trans this.fields (by decide)⟩
theorem vw_ents' {w : World} {V : VV} {a0 a1 a2 a3 a4 a6 : Value} {q : Option Addr} {c : Nat} (h : VW w (.agg #[a0, a1, a2, a3, a4, .slice q V.ents.length c, a6]) V) : ∃ d, Rw w q c 9 V.ents (ES w d) := by
  obtain ⟨d, cs, e, h⟩ := h
  cases d with
  | zero => exact h.elim
  | succ d =>
    obtain ⟨p1, c1, p2, c2, p3, c3, p4, c4, rfl, h1, h2, h3, h4⟩ := h
    simp at e
    obtain ⟨-, -, -, -, -, ⟨rfl, rfl⟩, -⟩ := e
    exact ⟨d, h3⟩
theorem one_nodes {V : VV} {e : EE} (he : e ∈ V.ents) (num : Int) : (oneE num e).nodes ≤ 1 + V.nodes := by
  rw [nodes_eq V, nodes_eq (oneE num e)]
  have h1 : (oneE num e).parts = e.parts := by simp [VV.parts, oneE, VV.kids, VV.ents]
  have h2 : (e.parts.map VV.nodes).sum ≤ (V.parts.map VV.nodes).sum := by
    obtain ⟨s, t, hst⟩ := List.append_of_mem he
    unfold VV.parts
    rw [hst]
    simp only [List.flatMap_append, List.flatMap_cons, List.map_append, List.sum_append]
    omega
  rw [h1]; omega
theorem all_take_ent {f : EE → Bool} {l : List EE} {i : Nat} (h : i < l.length) : (l.take (i + 1)).all f = ((l.take i).all f && f l[i]) := by
  rw [List.take_succ_eq_append_getElem h, List.all_append]; simp
theorem vw_one {w : World} {l : List EE} {a o c d : Nat} (h : Rw w (some ⟨a, o, none⟩) c 9 l (ES w d)) {i : Nat} (hi : i < l.length) (num : Int) : VW w (.agg #[.int .i64 9, .int .i64 num, .string ⟨#[]⟩, .slice none 0 0, .slice none 0 0, .slice (some ⟨a, o + i * 9, none⟩) 1 (c - i), .slice none 0 0]) (oneE num l[i]) := by
  obtain ⟨cs, hrc, hch⟩ := h.ch
  have hc := h.1.1
  have h1 : RC w 9 (some ⟨a, o + i * 9, none⟩) 1 ((cs.drop (i * 9)).take (1 * 9)) := (hrc.drop (by omega)).take (by omega)
  have h2 : Ch 9 (ES w d) [l[i]] ((cs.drop (i * 9)).take (1 * 9)) := by
    have := (hch.drop (k := i) (by omega)).take (k := 1) (by rw [List.length_drop]; omega)
    rwa [show (l.drop i).take 1 = [l[i]] by rw [List.drop_eq_getElem_cons hi]; rfl] at this
  exact vw_ents (l := [l[i]]) (Rw.of_ch h1 h2 (by show 1 ≤ c - i; omega) (show 1 ≤ 9223372036854775807 by decide)) 9 num ⟨#[]⟩
set_option maxHeartbeats 64000000 in
theorem merges_any (p q : Option Addr) (c d : Nat) (L M : List Int) (w : World) (hL : IS w (.slice p L.length c) L) (hM : IS w (.slice q M.length d) M) : Calls Tryz.prog 6 #[.slice p L.length c, .slice q M.length d] w (ER true w) := by
  have hA := heap_alloc_new w (.cells #[.slice p L.length c, .slice q M.length d] 22)
  have hb1 : Below w.heap.size w (w.alloc (.cells #[.slice p L.length c, .slice q M.length d] 22)) := (Below.refl _ _).alloc (Nat.le_refl _) _
  have Hsh := Lib.hid (short_any w.heap.size p q L.length M.length c d _ hA)
  have HL := Lib.hid (hL.below hb1); have HM := Lib.hid (hM.below hb1); have Hb1 := Lib.hid hb1
  have HW1 := Lib.hid (show ∃ w1, w.alloc (.cells #[.slice p L.length c, .slice q M.length d] 22) = w1 from ⟨_, rfl⟩)
  clear hA hb1 hL hM
  cases hsh : (decide (L.length ≤ 80) && decide (M.length ≤ 80)) with
  | false =>
    have hsh2 := Hsh.out
    rw [hsh] at hsh2
    have Hsh := Lib.hid hsh2
    clear hsh hsh2
    go_enter Tryz.func6, Tryz.ntmps6
    go_wp2_with (first
      | (go_at_call 8; refine Hsh.out.mono ?_; rintro e w2 ⟨rfl, hb2⟩; have Hb2 := Lib.hid (Hb1.out.step hb2); clear hb2)
      | (go_at_call 10; refine (awake_any w2).mono ?_; rintro e w3 ⟨rfl, hb3⟩; have Hb3 := Lib.hid (Hb2.out.step hb3); clear hb3))
    go_ret
    exact ⟨rfl, Hb3.out⟩
  | true =>
    have hsh2 := Hsh.out
    rw [hsh] at hsh2
    have Hsh := Lib.hid hsh2
    have hl80 : L.length ≤ 80 ∧ M.length ≤ 80 := by simpa using hsh
    obtain ⟨hl80, hm80⟩ := hl80
    clear hsh hsh2
    go_enter Tryz.func6, Tryz.ntmps6
    go_upto_region 4 with (first
      | (go_at_call 8; refine Hsh.out.mono ?_; rintro e w2 ⟨rfl, hb2⟩; have HL2 := Lib.hid (HL.out.below hb2); have HM2 := Lib.hid (HM.out.below hb2); have Hb2 := Lib.hid (Hb1.out.step hb2); clear hb2)
      | (go_at_call 11; refine (drawn_any p q c d L M w2 HL2.out HM2.out (by omega) (by omega)).mono ?_; rintro e w3 ⟨tv, T, v, V, n, B, rfl, ht, ho, hd, h1n, h7n, hv, hvv, hnn, hB, hb3⟩; obtain ⟨pT, cT, xs, rfl, ho⟩ := ho; obtain ⟨dv, cs, rfl, hv⟩ := hv; obtain ⟨x1, x2, x3, x4, x5, x6, x7, x8, rfl⟩ := hv.seven; have HT := Lib.hid ht; have HO := Lib.hid (show TOB w2.heap.size B w3 (.agg #[.slice pT T.nodes.length cT, .int .i64 T.root]) T from ⟨pT, cT, xs, rfl, ho⟩); have HD := Lib.hid hd; have HV := Lib.hid (show VW (we (lo B) w3) (.agg #[.int .i64 V.kind, .int .i64 V.num, .string V.text, .slice x1 V.kids.length x2, .slice x3 V.keys.length x4, .slice x5 V.ents.length x6, .slice x7 V.labels.length x8]) V from ⟨dv, _, rfl, hv⟩); have Hvv := Lib.hid hvv; have Hnn := Lib.hid hnn; have HB := Lib.hid hB; have Hb3 := Lib.hid hb3; have H1n := Lib.hid h1n; have H7n := Lib.hid h7n; clear ht ho hd hv hvv hnn hB hb3 h1n h7n))
    have hbx := boxes2 w3 (.cells #[.slice pT T.nodes.length cT, .int .i64 T.root] 31) (.cells #[.int .i64 V.kind, .int .i64 V.num, .string V.text, .slice x1 V.kids.length x2, .slice x3 V.keys.length x4, .slice x5 V.ents.length x6, .slice x7 V.labels.length x8] 28)
    obtain ⟨w5, e5, hT5, hV5, hb5⟩ := hbx
    rw [e5]
    have HT5 := Lib.hid hT5; have HV5 := Lib.hid hV5; have Hb5 := Lib.hid hb5
    have HDl := Lib.hid HD.out.len
    clear e5 hT5 hV5 hb5
    have hw35 : w3.heap.size ≤ w5.heap.size := Hb5.out.size
    have hn1 : 1 ≤ T.nodes.length := by have := HDl.out; have := H1n.out; omega
    have hn7 : T.nodes.length ≤ 7 := by have := HDl.out; have := H7n.out; omega
    have HT3 := Lib.hid (HT.out.sub (we_sub _ _)); have HV3 := Lib.hid (HV.out.sub (we_sub _ _))
    have HTS := Lib.hid (HT3.out.below Hb5.out); have HVW := Lib.hid (HV3.out.below Hb5.out)
    have Hw5 := Lib.hid (show Below w.heap.size w w5 from (Hb2.out.step Hb3.out).step Hb5.out)
    obtain ⟨t0, t1⟩ := cells2 HT5.out
    obtain ⟨⟨f0, f1, f2, f3⟩, f4, f5, f6⟩ := cells7 HV5.out
    generalize hbt : w3.heap.size = bt at *
    generalize hbv : bt + 1 = bv at *
    clear hbt hbv
    by_cases hk9 : V.kind = 9
    rotate_left
    · have d9 : (V.kind != 9) = true := by simp [hk9]
      have d9' : (V.kind == 9) = false := by simp [hk9]
      clear hk9
      go_wp2_with (go_at_call 10; refine (awake_any w5).mono ?_; rintro e w6 ⟨rfl, hb6⟩; have Hb6 := Lib.hid (Hw5.out.step hb6); clear hb6)
      go_ret
      exact ⟨rfl, Hb6.out⟩
    have d9 : (V.kind != 9) = false := by simp [hk9]
    have d9' : (V.kind == 9) = true := by simp [hk9]
    have Hk9 := Lib.hid hk9
    clear hk9
    obtain ⟨de, hents⟩ := vw_ents' HVW.out
    have Hents := Lib.hid hents
    clear hents
    go_wp2
    go_loopw [7] (fun kv wr => ∃ k : Nat, kv = .int .i64 (k : Int) ∧ k ≤ T.nodes.length ∧ Below w5.heap.size w5 wr) (fun kv _ => T.nodes.length - (intOf kv).toNat)
    case atStart => exact ⟨0, rfl, by omega, Below.refl _ _⟩
    case round =>
      obtain ⟨k, rfl, hkn, hbr⟩ := hrel
      have Hbr := Lib.hid hbr
      clear t0 t1 f0 f1 f2 f3 f4 f5 f6 hbr
      have HTr := Lib.hid ((Hbr.out.block _ (heap_lt HT5.out)).trans HT5.out)
      have HVr := Lib.hid ((Hbr.out.block _ (heap_lt HV5.out)).trans HV5.out)
      obtain ⟨t0, t1⟩ := cells2 HTr.out
      obtain ⟨⟨f0, f1, f2, f3⟩, f4, f5, f6⟩ := cells7 HVr.out
      by_cases hlt : k < T.nodes.length
      rotate_left
      · obtain rfl : k = T.nodes.length := by omega
        have d10 : decide (T.nodes.length < T.nodes.length) = false := by simp
        go_wp2_with (go_at_call 10; refine (awake_any wr).mono ?_; rintro e w6 ⟨rfl, hb6⟩; have Hb6 := Lib.hid (Hw5.out.step (Hbr.out.step hb6)); clear hb6)
        go_ret
        exact ⟨rfl, Hb6.out⟩
      have d10 : decide (k < T.nodes.length) = true := by simp [hlt]
      obtain ⟨an, on, cn, rfl, han, -, hrange, hNC⟩ := (ts_rw HTS.out).all hlt
      have hrg := hrange _ Hbr.out
      obtain ⟨x, hx⟩ : ∃ x, T.nodes[k] = x := ⟨_, rfl⟩
      have Hx := Lib.hid hx
      have hlaw := fun h14 => one_law (HD.out.wf H1n.out) Hvv.out Hk9.out hlt h14
      have hd := HD.out.at' k hlt
      rw [hx] at hNC hlaw hd
      have Hlaw := Lib.hid hlaw; have Hkl := Lib.hid hd.kids
      obtain ⟨p1, c1, p2, c2, rfl, -, -⟩ := hNC
      have q0 := hrg 0 _ rfl; have q4 := hrg 4 _ rfl
      rw [Nat.add_zero] at q0
      have Hq4 := Lib.hid q4
      clear hrg hrange hlaw hd hx
      by_cases h14 : x.kind = 14
      rotate_left
      · have d14 : (x.kind != 14) = true := by simp [h14]
        have d14' : (x.kind == 14) = false := by simp [h14]
        clear h14
        go_wp2
        exact ⟨⟨k + 1, by first | rfl | go_num, by omega, Hbr.out⟩, by simp [intOf]; omega⟩
      have d14 : (x.kind != 14) = false := by simp [h14]
      have d14' : (x.kind == 14) = true := by simp [h14]
      have Hl := Lib.hid (Hlaw.out h14)
      clear h14 Hlaw
      go_upto_region 10 with fail
      have hxk : x.kids.length ≤ 3 := Hkl.out
      obtain ⟨dq, hdq⟩ : ∃ dq, decide (V.num = (x.kids.length : Int) - 1) = dq := ⟨_, rfl⟩
      have e1 : (V.num == (x.kids.length : Int) - 1) = dq := by rw [← hdq]; rfl
      have Hdq := Lib.hid hdq
      clear hdq
      obtain ⟨f, hf⟩ : ∃ f : EE → Bool, f = fun e => mof T (oneE V.num e) (k : Int) := ⟨_, rfl⟩
      have Hf := Lib.hid hf
      clear hf
      have hl2 := Hl.out
      rw [Hdq.out, ← Hf.out] at hl2
      have Hl2 := Lib.hid hl2
      have HcV := Lib.hid (fun (w' : World) (hb : Below w5.heap.size w5 w') => memberOf_any T V (k : Int) w' _ _ (HVW.out.below hb) (HTS.out.below hb) (Nat.le_trans Hnn.out (by decide)) (dt_sz HD.out (by have := H7n.out; omega)))
      have HcE := Lib.hid (fun (w' : World) (hb : Below w5.heap.size w5 w') (a o : Nat) (hp : x5 = some ⟨a, o, none⟩) (i : Nat) (hi : i < V.ents.length) (x' : Bool) (hx' : mof T (oneE V.num V.ents[i]) (k : Int) = x') => hx' ▸ memberOf_any T (oneE V.num V.ents[i]) (k : Int) w' (.agg #[.int .i64 9, .int .i64 V.num, .string ⟨#[]⟩, .slice none 0 0, .slice none 0 0, .slice (some ⟨a, o + i * 9, none⟩) 1 (x6 - i), .slice none 0 0]) _ (vw_one (hp ▸ (Hents.out.below hb fun _ _ _ h => h.below hb)) hi V.num) (HTS.out.below hb) (Nat.le_trans (one_nodes (List.getElem_mem hi) _) (by have := Hnn.out; have : NN 4 ≤ 1000000 := (by decide); omega)) (dt_sz HD.out (by have := H7n.out; omega)))
      clear hl2
      obtain ⟨wq, hwq⟩ : ∃ wq : World, wq = wr := ⟨_, rfl⟩
      subst hwq
      go_wp2_with (first
        | ((with_reducible refine Lex.at_region ?_); with_reducible refine Lex.wp_region_lex (by kernel_rfl) (by decide +kernel) ?_)
        | ((with_reducible refine Lex.at_fin ?_); with_reducible refine Lex.fin_on (by kernel_rfl) ?_))
      go_loopw [8, 9, 10] (fun av iv _ wr => ∃ i : Nat, av = .bool (dq && (V.ents.take i).all f) ∧ iv = .int .i64 (i : Int) ∧ i ≤ V.ents.length ∧ Below w5.heap.size w5 wr) (fun _ iv _ _ => V.ents.length - (intOf iv).toNat)
      case atStart => exact ⟨0, by simp, rfl, by omega, Hbr.out.trans (Below.refl _ _).drew⟩
      case round =>
        obtain ⟨i, rfl, rfl, hi, hbi⟩ := hrel
        have Hbi := Lib.hid hbi
        clear t0 t1 f0 f1 f2 f3 f4 f5 f6 q0 q4 hbi
        have HTi := Lib.hid ((Hbi.out.block _ (heap_lt HT5.out)).trans HT5.out)
        have HVi := Lib.hid ((Hbi.out.block _ (heap_lt HV5.out)).trans HV5.out)
        obtain ⟨t0, t1⟩ := cells2 HTi.out
        obtain ⟨⟨f0, f1, f2, f3⟩, f4, f5, f6⟩ := cells7 HVi.out
        obtain ⟨wi, hwi⟩ : ∃ wi : World, wi = wr := ⟨_, rfl⟩
        subst hwi
        by_cases hie : i < V.ents.length
        rotate_left
        · obtain rfl : i = V.ents.length := by omega
          have d11 : decide (V.ents.length < V.ents.length) = false := by simp
          rw [show (dq && (V.ents.take V.ents.length).all f) = mof T V (k : Int) by rw [List.take_length]; exact Hl2.out.symm]
          have hcv := HcV.out wi Hbi.out
          generalize mof T V (k : Int) = m at hcv ⊢
          have Hcv := Lib.hid hcv
          clear hcv
          cases m with
          | true =>
            go_wp2_with (go_at_call 13; refine Hcv.out.mono ?_; rintro e w6 ⟨rfl, hb6⟩; have Hb6 := Lib.hid (Hbi.out.step hb6); clear hb6)
            exact ⟨⟨k + 1, by first | rfl | go_num, by omega, Hb6.out⟩, by simp [intOf]; omega⟩
          | false =>
            go_wp2_with (go_at_call 13; refine Hcv.out.mono ?_; rintro e w6 ⟨rfl, hb6⟩; have Hb6 := Lib.hid (Hbi.out.step hb6); clear hb6)
            exact ⟨⟨k + 1, by first | rfl | go_num, by omega, Hb6.out⟩, by simp [intOf]; omega⟩
        have d11 : decide (i < V.ents.length) = true := by simp [hie]
        obtain ⟨ae, oe, ce, rfl, hae, -, -, -⟩ := Hents.out.all hie
        have hcap : V.ents.length ≤ x6 := Hents.out.1.1
        have hax : ae < w5.heap.size := hae
        have hi1 : i + 1 ≤ x6 := by omega
        have hi2 : ¬ x6 = i := by omega
        have hbig : V.ents.length ≤ 9223372036854775807 := Hents.out.big
        have hi3 : i + 1 < 9223372036854775808 := by omega
        have Y1 := Lib.hid (show wi.drew.cell? ⟨bv, 1, none⟩ = _ from f1)
        have Y5 := Lib.hid (show wi.drew.cell? ⟨bv, 5, none⟩ = _ from f5)
        have hce := HcE.out
        have hst := all_take_ent (f := f) hie
        have hfi : f V.ents[i] = mof T (oneE V.num V.ents[i]) (k : Int) := by rw [Hf.out]
        have Hfi := Lib.hid hfi; have Hst := Lib.hid hst
        have Hie := Lib.hid hie
        have hlv : bv < wi.heap.size := heap_lt HVi.out
        clear hce hst hfi
        cases hb : (dq && (V.ents.take i).all f) with
        | false =>
          have Hnext := Lib.hid (show (dq && (V.ents.take (i + 1)).all f) = false by rw [Hst.out, ← Bool.and_assoc, hb]; rfl)
          clear hb
          go_wp2_with (first
            | ((with_reducible refine Lex.at_finK ?_); refine LexK.finE_on (by kernel_rfl) (by repeat first | exact LexK.finL_nil | refine LexK.finL_none rfl ?_ | refine LexK.finL_skip (by decide +kernel) ?_ | refine LexK.finL_take rfl (Eq.refl _) Y1.out ?_ | refine LexK.finL_take rfl (Eq.refl _) Y5.out ?_) ?_)
            | ((with_reducible refine Lex.at_region ?_); refine LexK.wp_region_lexE (fun x => x = bv) (by kernel_rfl) (by decide +kernel) ?_)
            | ((with_reducible refine Lex.at_wpX ?_); with_reducible refine LexK.wpX_plain (by decide +kernel) ?_)
            | ((with_reducible refine Lex.at_wpX ?_); with_reducible refine LexK.wpX_call ?_)
            | ((with_reducible refine Lex.at_wpX ?_); with_reducible refine LexK.wpX_nil ?_)
            | ((with_reducible refine Lex.at_ext ?_); first | (refine LexK.ext_on (LexK.Ext.alloc _ _) ?_) | (refine LexK.ext_on (LexK.Ext.refl _) ?_))
            | (with_reducible refine LexK.ext_on (LexK.Ext.refl _) ?_))
          exact ⟨⟨i + 1, by rw [Hnext.out], by first | rfl | go_num, by omega, (Hbi.out.step ((Below.refl _ _).alloc (Nat.le_refl _) _)).drew⟩, by simp [intOf]; omega⟩
        | true =>
          cases hfv : mof T (oneE V.num V.ents[i]) (k : Int) with
          | true =>
            have Hnext := Lib.hid (show (dq && (V.ents.take (i + 1)).all f) = true by rw [Hst.out, ← Bool.and_assoc, hb, Hfi.out]; exact (Bool.true_and _).trans hfv)
            have Hcj := Lib.hid (fun (w' : World) (hb : Below w5.heap.size w5 w') => (HcE.out w' hb ae oe rfl i hie _ hfv : Calls Tryz.prog 13 #[.agg #[.int .i64 9, .int .i64 V.num, .string ⟨#[]⟩, .slice none 0 0, .slice none 0 0, .slice (some ⟨ae, oe + i * 9, none⟩) 1 (x6 - i), .slice none 0 0], .agg #[.slice (some ⟨an, on, none⟩) T.nodes.length cT, .int .i64 T.root], .int .i64 (k : Int)] w' (ER true w')))
            clear hb hfv
            go_upto_region 15 with (first
            | ((with_reducible refine Lex.at_finK ?_); refine LexK.finE_on (by kernel_rfl) (by repeat first | exact LexK.finL_nil | refine LexK.finL_none rfl ?_ | refine LexK.finL_skip (by decide +kernel) ?_ | refine LexK.finL_take rfl (Eq.refl _) Y1.out ?_ | refine LexK.finL_take rfl (Eq.refl _) Y5.out ?_) ?_)
            | ((with_reducible refine Lex.at_region ?_); refine LexK.wp_region_lexE (fun x => x = bv) (by kernel_rfl) (by decide +kernel) ?_)
            | ((with_reducible refine Lex.at_wpX ?_); with_reducible refine LexK.wpX_plain (by decide +kernel) ?_)
            | ((with_reducible refine Lex.at_wpX ?_); with_reducible refine LexK.wpX_call ?_)
            | ((with_reducible refine Lex.at_wpX ?_); with_reducible refine LexK.wpX_nil ?_)
            | ((with_reducible refine Lex.at_ext ?_); first | (refine LexK.ext_on (LexK.Ext.alloc _ _) ?_) | (refine LexK.ext_on (LexK.Ext.refl _) ?_))
              | (with_reducible refine LexK.ext_on (LexK.Ext.refl _) ?_))
            have hO := heap_alloc_new wi (.cells #[.int .i64 9, .int .i64 V.num, .string ⟨#[]⟩, .slice none 0 0, .slice none 0 0, .slice (some ⟨ae, oe + i * 9, none⟩) 1 (x6 - i), .slice none 0 0] 28)
            have hbj : Below wi.heap.size wi (wi.alloc (.cells #[.int .i64 9, .int .i64 V.num, .string ⟨#[]⟩, .slice none 0 0, .slice none 0 0, .slice (some ⟨ae, oe + i * 9, none⟩) 1 (x6 - i), .slice none 0 0] 28)).drew := ((Below.refl _ _).alloc (Nat.le_refl _) _).drew
            have hO2 : (wi.alloc (.cells #[.int .i64 9, .int .i64 V.num, .string ⟨#[]⟩, .slice none 0 0, .slice none 0 0, .slice (some ⟨ae, oe + i * 9, none⟩) 1 (x6 - i), .slice none 0 0] 28)).drew.heap[wi.heap.size]? = _ := hO
            generalize (wi.alloc (.cells #[.int .i64 9, .int .i64 V.num, .string ⟨#[]⟩, .slice none 0 0, .slice none 0 0, .slice (some ⟨ae, oe + i * 9, none⟩) 1 (x6 - i), .slice none 0 0] 28)).drew = wj at *
            have Hbj := Lib.hid (Hbi.out.step hbj)
            have HTj := Lib.hid ((hbj.block _ (heap_lt HTi.out)).trans HTi.out)
            obtain ⟨⟨e0, e1', e2, e3⟩, e4, e5, e6⟩ := cells7 hO2
            clear t0 t1 hO hbj hO2
            obtain ⟨t0, t1⟩ := cells2 HTj.out
            go_wp2_with (go_at_call 13; refine (Hcj.out wj Hbj.out).mono ?_; rintro e w6 ⟨rfl, hb6⟩; have Hb6 := Lib.hid (Hbj.out.step hb6); clear hb6)
            exact ⟨⟨i + 1, by rw [Hnext.out], by first | rfl | go_num, by omega, Hb6.out⟩, by simp [intOf]; omega⟩
          | false =>
            have Hnext := Lib.hid (show (dq && (V.ents.take (i + 1)).all f) = false by rw [Hst.out, ← Bool.and_assoc, hb, Hfi.out]; exact (Bool.true_and _).trans hfv)
            have Hcj := Lib.hid (fun (w' : World) (hb : Below w5.heap.size w5 w') => (HcE.out w' hb ae oe rfl i hie _ hfv : Calls Tryz.prog 13 #[.agg #[.int .i64 9, .int .i64 V.num, .string ⟨#[]⟩, .slice none 0 0, .slice none 0 0, .slice (some ⟨ae, oe + i * 9, none⟩) 1 (x6 - i), .slice none 0 0], .agg #[.slice (some ⟨an, on, none⟩) T.nodes.length cT, .int .i64 T.root], .int .i64 (k : Int)] w' (ER false w')))
            clear hb hfv
            go_upto_region 15 with (first
            | ((with_reducible refine Lex.at_finK ?_); refine LexK.finE_on (by kernel_rfl) (by repeat first | exact LexK.finL_nil | refine LexK.finL_none rfl ?_ | refine LexK.finL_skip (by decide +kernel) ?_ | refine LexK.finL_take rfl (Eq.refl _) Y1.out ?_ | refine LexK.finL_take rfl (Eq.refl _) Y5.out ?_) ?_)
            | ((with_reducible refine Lex.at_region ?_); refine LexK.wp_region_lexE (fun x => x = bv) (by kernel_rfl) (by decide +kernel) ?_)
            | ((with_reducible refine Lex.at_wpX ?_); with_reducible refine LexK.wpX_plain (by decide +kernel) ?_)
            | ((with_reducible refine Lex.at_wpX ?_); with_reducible refine LexK.wpX_call ?_)
            | ((with_reducible refine Lex.at_wpX ?_); with_reducible refine LexK.wpX_nil ?_)
            | ((with_reducible refine Lex.at_ext ?_); first | (refine LexK.ext_on (LexK.Ext.alloc _ _) ?_) | (refine LexK.ext_on (LexK.Ext.refl _) ?_))
              | (with_reducible refine LexK.ext_on (LexK.Ext.refl _) ?_))
            have hO := heap_alloc_new wi (.cells #[.int .i64 9, .int .i64 V.num, .string ⟨#[]⟩, .slice none 0 0, .slice none 0 0, .slice (some ⟨ae, oe + i * 9, none⟩) 1 (x6 - i), .slice none 0 0] 28)
            have hbj : Below wi.heap.size wi (wi.alloc (.cells #[.int .i64 9, .int .i64 V.num, .string ⟨#[]⟩, .slice none 0 0, .slice none 0 0, .slice (some ⟨ae, oe + i * 9, none⟩) 1 (x6 - i), .slice none 0 0] 28)).drew := ((Below.refl _ _).alloc (Nat.le_refl _) _).drew
            have hO2 : (wi.alloc (.cells #[.int .i64 9, .int .i64 V.num, .string ⟨#[]⟩, .slice none 0 0, .slice none 0 0, .slice (some ⟨ae, oe + i * 9, none⟩) 1 (x6 - i), .slice none 0 0] 28)).drew.heap[wi.heap.size]? = _ := hO
            generalize (wi.alloc (.cells #[.int .i64 9, .int .i64 V.num, .string ⟨#[]⟩, .slice none 0 0, .slice none 0 0, .slice (some ⟨ae, oe + i * 9, none⟩) 1 (x6 - i), .slice none 0 0] 28)).drew = wj at *
            have Hbj := Lib.hid (Hbi.out.step hbj)
            have HTj := Lib.hid ((hbj.block _ (heap_lt HTi.out)).trans HTi.out)
            obtain ⟨⟨e0, e1', e2, e3⟩, e4, e5, e6⟩ := cells7 hO2
            clear t0 t1 hO hbj hO2
            obtain ⟨t0, t1⟩ := cells2 HTj.out
            go_wp2_with (go_at_call 13; refine (Hcj.out wj Hbj.out).mono ?_; rintro e w6 ⟨rfl, hb6⟩; have Hb6 := Lib.hid (Hbj.out.step hb6); clear hb6)
            exact ⟨⟨i + 1, by rw [Hnext.out], by first | rfl | go_num, by omega, Hb6.out⟩, by simp [intOf]; omega⟩
end Go.Proofs.YtjgldaaofdpcgaaGreat
namespace Go.Proofs.YtjgldaaofdpcgaaGreat.memberMerges
open Go.ChangeShapes Go.WideShapes Go.ChangeAt Go.RowKit
open Go.ChangeMaps (open_string shut_string)
set_option linter.unusedVariables false

theorem own : ownKnob Tryz.prog.godebug = none := by kernel_rfl
theorem laidOut : laidOutB Tryz.prog = true := by kernel_rfl
set_option maxRecDepth 100000 in
theorem contract (H : Type) (enc : TypeId × Value → H) (W : World) (base : Nat) (args : Array Value) (ds gs : List (DataW H)) (before : List MemPlace)
    (hval0 : ∀ (j : Nat) t v, Tryz.f6.params[j]? = some t → args[j]? = some v → Value.okWide Tryz.prog W .any base t v)
    (hW : DataW.Whole enc Tryz.prog Tryz.f6.params.toList Rows.memberMergesSpec.vars false W args.toList ds gs before) :
    Calls Tryz.prog 6 args W fun e W' => ∃ v, e = .returned v ∧ Rows.memberMergesSpec.post enc Tryz.prog Tryz.f6 false true false false W args v W' := by
  have hval : ∀ (j : Nat) t v, Tryz.f6.params[j]? = some t → args[j]? = some v → Value.okWide Tryz.prog W .any base t v := hval0
  have hW' := hW
  obtain ⟨p, q, hA0, hV, rfl, hfz, hnd⟩ := hW
  have hA : DataW.TrodAll enc Tryz.prog W 0 (fun _ => true) true Tryz.f6.params.toList args.toList ds p := hA0
  rw [Tryz.params6] at hA hval
  obtain ⟨v0, vs0, d0, ds0, p0, q0, hargs, rfl, rfl, h0, r0⟩ := trodAll_cons hA
  obtain ⟨v1, vs1, d1, ds1, p1, q1, rfl, rfl, rfl, h1, r1⟩ := trodAll_cons r0
  obtain ⟨rfl, rfl, rfl⟩ := trodAll_nil r1
  obtain rfl : args = #[v0, v1] := by cases args; simp_all
  obtain ⟨rfl, rfl⟩ := trodVars_none hV
  clear hA0 hval0
  have k0 := h0
  have lt0 : ∀ x ∈ p0, x.block < W.heap.size := by obtain ⟨m, hm⟩ := k0; exact DataW.trod_lt m _ _ _ hm
  have k1 := h1
  have lt1 : ∀ x ∈ p1, x.block < W.heap.size := by obtain ⟨m, hm⟩ := k1; exact DataW.trod_lt m _ _ _ hm
  obtain ⟨s0, len0, cap0, rfl⟩ := okWide_slice Tryz.underlying22 (hval 0 22 v0 rfl rfl)
  obtain ⟨fuel0, hf0⟩ := h0
  obtain ⟨s1, len1, cap1, rfl⟩ := okWide_slice Tryz.underlying22 (hval 1 22 v1 rfl rfl)
  obtain ⟨fuel1, hf1⟩ := h1
  obtain ⟨L0, hL0, hl0, hw0⟩ := ints_of hf0
  obtain ⟨L1, hL1, hl1, hw1⟩ := ints_of hf1
  obtain ⟨p0', c0', e0, -⟩ := id hL0
  obtain ⟨p1', c1', e1, -⟩ := id hL1
  injection e0 with e01 e02 e03
  injection e1 with e11 e12 e13
  subst e01 e02 e03 e11 e12 e13
  refine ((merges_any _ _ _ _ L0 L1 W hL0 hL1 : Calls Tryz.prog 6 _ W _)).mono fun e W' ⟨he, bel⟩ => ?_
  subst he
  exact ⟨_, rfl, _, _, _, [], _, [], hW', trodAll_mk1 (shut_bool Tryz.underlying4 _), (trodAll_cons_mk (Below.trod laidOut (by kernel_rfl) (of_decide_eq_true (by kernel_rfl)) k0 bel lt0) (trodAll_cons_mk (Below.trod laidOut (by kernel_rfl) (of_decide_eq_true (by kernel_rfl)) k1 bel lt1) trodAll_mk0)), rfl, bel.frame _, fun h => by cases h⟩
set_option maxRecDepth 100000 in
theorem lifted (os : Os) (started : os.Started) (H : Type) (enc : TypeId × Value → H) :
    ReturnsInHanded {} Tryz.checked os 6 .any (Rows.memberMergesSpec.pre6 enc Tryz.prog Tryz.f6 Rows.memberMergesRow.domain false) (Rows.memberMergesSpec.post enc Tryz.prog Tryz.f6 false true false false) := by
  refine returnsInHanded_of_change (C := Tryz.checked) own started (by kernel_rfl) Tryz.func6
    (ChangeSpec.witness6 (enc := enc) (C := Tryz.checked) false ⟨#[], #[.slice none 0 0, .slice none 0 0], []⟩ 8 (by kernel_rfl) (by kernel_rfl) (by kernel_rfl) (by kernel_rfl)) ?_
  intro W base args ds gs before hval hW _ _
  exact contract H enc W base args ds gs before hval hW
theorem memberMerges_holds : Rows.MemberMergesSaid :=
  OpenClaim.holds_of_wide 6 Tryz.f6 rfl rfl rfl rfl rfl rfl rfl ⟨rfl, rfl, rfl, rfl, rfl⟩ rfl rfl rfl rfl rfl (by kernel_rfl) Tryz.func6 (by kernel_rfl)
    (of_decide_eq_true (by kernel_rfl)) (by unfold Func.isWrapper; first | (rw [if_pos (by decide +kernel)]; kernel_rfl) | (rw [if_neg (by decide +kernel)]; exact ⟨rfl, rfl⟩))
    (fun os started H enc _ => lifted os started H enc)
end Go.Proofs.YtjgldaaofdpcgaaGreat.memberMerges
