/- MemberComplementsSaid holds: for all numbers drawn from, the law answers true; no condition. -/
import Derived.Test.YtjgldaaofdpcgaaGreatRows
import Derived.WalkKit
import Derived.ProofKit
import Derived.OpenShut
import Derived.ShutString
import Derived.Below
import Derived.ChangeOld
import Derived.Test.YtjgldaaofdpcgaaGreatU04
import Derived.Test.YtjgldaaofdpcgaaGreatU48
set_option linter.unusedVariables false
set_option linter.unusedSimpArgs false
namespace Go.Proofs.YtjgldaaofdpcgaaGreat
open Go.RowKit Go.Ident
set_option maxRecDepth 100000
theorem ts_rw {w : World} {p : Option Addr} {n c : Nat} {r : Value} {T : Ty} (h : TS w (.agg #[.slice p n c, r]) T) : Rw w p c 8 T.nodes (NC w) := by
  obtain ⟨p', c', e, h, -⟩ := h
  simp at e
  obtain ⟨⟨e1, -, e3⟩, -⟩ := e
  subst e1 e3
  exact h
theorem NC.one {w : World} {X : TN} {cs : List Value} (h : NC w X cs) : ∀ u ∈ cs, u.oneCell' = true := by
  obtain ⟨x1, x2, x3, x4, rfl⟩ := h.seven
  intro u hu
  simp only [List.mem_cons, List.not_mem_nil, or_false] at hu
  rcases hu with rfl | rfl | rfl | rfl | rfl | rfl | rfl | rfl <;> rfl
theorem boxes4 (w : World) (A B C D : Obj) : ∃ w4, (((w.alloc A).alloc B).alloc C).alloc D = w4 ∧ w4.heap[w.heap.size]? = some A ∧ w4.heap[w.heap.size + 1]? = some B ∧ w4.heap[w.heap.size + 1 + 1]? = some C ∧ w4.heap[w.heap.size + 1 + 1 + 1]? = some D ∧ Below w.heap.size w w4 := by
  obtain ⟨w3, e, h1, h2, h3, h4, h5⟩ := boxes3' w A B C
  rw [e]
  have h6 : Below w3.heap.size w3 (w3.alloc D) := (Below.refl _ _).alloc (Nat.le_refl _) _
  have h7 := heap_alloc_new w3 D
  rw [h5] at h7
  exact ⟨_, rfl, (h6.block _ (heap_lt h1)).trans h1, (h6.block _ (heap_lt h2)).trans h2, (h6.block _ (heap_lt h3)).trans h3, h7, h4.step h6⟩
def ncell (k : Int) (g n : Nat) : List Value := [.int .i64 k, .int .i64 0, .int .i64 0, .string ⟨#[]⟩, .slice (some ⟨g, 0, none⟩) n n, .slice none 0 0, .int .i64 0, .int .i64 0]
theorem ncell_nc {w : World} {k : Int} {g : Nat} {l : List Int} (h : w.heap[g]? = some (.cells (ic l).toArray 3)) : NC w (newN k l) (ncell k g l.length) := by
  refine ⟨some ⟨g, 0, none⟩, l.length, none, 0, rfl, ⟨_, _, rfl, Nat.le_refl _, RC.row (by rw [ic_len]; simp [newN]) h fun j u hu => by simpa [newN] using hu⟩, Rw.nil _ _ _ _ _⟩
theorem news_rc {w : World} {g h : Nat} (k : w.heap[h]? = some (.cells #[.int .i64 18, .int .i64 0, .int .i64 0, .string ⟨#[]⟩, .slice (some ⟨g, 0, none⟩) 1 1, .slice none 0 0, .int .i64 0, .int .i64 0, .int .i64 16, .int .i64 0, .int .i64 0, .string ⟨#[]⟩, .slice (some ⟨g + 1, 0, none⟩) 2 2, .slice none 0 0, .int .i64 0, .int .i64 0, .int .i64 17, .int .i64 0, .int .i64 0, .string ⟨#[]⟩, .slice (some ⟨g + 1 + 1, 0, none⟩) 2 2, .slice none 0 0, .int .i64 0, .int .i64 0] 48)) : RC w 8 (some ⟨h, 0, none⟩) 3 (ncell 18 g 1 ++ (ncell 16 (g + 1) 2 ++ ncell 17 (g + 1 + 1) 2)) := RC.row rfl k fun j u hu => by simpa [ncell] using hu
theorem news_one (g : Nat) : ∀ u ∈ (ncell 18 g 1 ++ (ncell 16 (g + 1) 2 ++ ncell 17 (g + 1 + 1) 2)), u.oneCell' = true := by
  intro u hu
  simp only [ncell, List.mem_append, List.mem_cons, List.not_mem_nil, or_false, or_assoc] at hu
  rcases hu with rfl | rfl | rfl | rfl | rfl | rfl | rfl | rfl | rfl | rfl | rfl | rfl | rfl | rfl | rfl | rfl | rfl | rfl | rfl | rfl | rfl | rfl | rfl | rfl <;> rfl
theorem cmp_ts {w : World} {T : Ty} {B g : Nat} {p : Option Addr} {c : Nat} {cs : List Value} (ho : w.ownsRow B 48 8 (.slice p (T.nodes.length + 3) c) (T.nodes.length + 3) (cs ++ (ncell 18 g 1 ++ (ncell 16 (g + 1) 2 ++ ncell 17 (g + 1 + 1) 2)))) (hc : Ch 8 (NC w) T.nodes cs) (hk : ∀ n ∈ T.nodes, n.kids.length ≤ 9223372036854775807) (hl : T.nodes.length ≤ 1000)
    (h1 : w.heap[g]? = some (.cells #[.int .i64 T.root] 3)) (h2 : w.heap[g + 1]? = some (.cells #[.int .i64 T.root, .int .i64 ((T.nodes.length : Int) - 1)] 3)) (h3 : w.heap[g + 1 + 1]? = some (.cells #[.int .i64 T.root, .int .i64 ((T.nodes.length : Int) - 1)] 3)) : TS w (.agg #[.slice p (T.nodes.length + 3) c, .int .i64 T.root]) (cmpT T) := by
  have hn1 : Ch 8 (NC w) [newN 18 [T.root]] (ncell 18 g 1) := Ch.single rfl (ncell_nc (l := [T.root]) h1)
  have hn2 : Ch 8 (NC w) [newN 16 [T.root, (T.nodes.length : Int) - 1]] (ncell 16 (g + 1) 2) := Ch.single rfl (ncell_nc (l := [T.root, (T.nodes.length : Int) - 1]) h2)
  have hn3 : Ch 8 (NC w) [newN 17 [T.root, (T.nodes.length : Int) - 1]] (ncell 17 (g + 1 + 1) 2) := Ch.single rfl (ncell_nc (l := [T.root, (T.nodes.length : Int) - 1]) h3)
  have hall : Ch 8 (NC w) (cmpT T).nodes (cs ++ (ncell 18 g 1 ++ (ncell 16 (g + 1) 2 ++ ncell 17 (g + 1 + 1) 2))) := hc.append (hn1.append (hn2.append hn3))
  have ho2 : w.ownsRow B 48 8 (.slice p (T.nodes.length + 3) c) (cmpT T).nodes.length (cs ++ (ncell 18 g 1 ++ (ncell 16 (g + 1) 2 ++ ncell 17 (g + 1 + 1) 2))) := by rw [cmpT_len]; exact ho
  obtain ⟨p', c', e, hrw⟩ := own_rw ho2 hall (by rw [cmpT_len]; omega)
  injection e with e1 e2 e3
  subst e1 e3
  refine ⟨p, c, by rw [cmpT_len]; rfl, hrw, fun n hn => ?_⟩
  rcases List.mem_append.1 hn with hn | hn
  · exact hk n hn
  · simp at hn; rcases hn with rfl | rfl | rfl <;> simp [newN]
theorem cmp_sz {n : Nat} {T : Ty} (h : TD n T) (hn : n ≤ 1000) : SzT (cmpT T) := by
  have hl := h.len
  refine ⟨by unfold Ty.len; rw [cmpT_len]; omega, fun x hx => ?_⟩
  rcases List.mem_append.1 hx with hx | hx
  · obtain ⟨j, hj, rfl⟩ := List.mem_iff_getElem.1 hx
    have := h.at' j hj
    exact ⟨Nat.le_trans this.kids (by decide), Nat.le_trans this.fields (by decide)⟩
  · simp at hx; rcases hx with rfl | rfl | rfl <;> simp [newN]
set_option maxHeartbeats 64000000 in
theorem complements_any (p q : Option Addr) (c d : Nat) (L M : List Int) (w : World) (hL : IS w (.slice p L.length c) L) (hM : IS w (.slice q M.length d) M) : Calls Tryz.prog 4 #[.slice p L.length c, .slice q M.length d] w (ER true w) := by
  have hA := heap_alloc_new w (.cells #[.slice p L.length c, .slice q M.length d] 22)
  have hb1 : Below w.heap.size w (w.alloc (.cells #[.slice p L.length c, .slice q M.length d] 22)) := (Below.refl _ _).alloc (Nat.le_refl _) _
  have Hsh := Lib.hid (short_any w.heap.size p q L.length M.length c d _ hA)
  have HL := Lib.hid (hL.below hb1); have HM := Lib.hid (hM.below hb1); have Hb1 := Lib.hid hb1
  have HW1 := Lib.hid (show ∃ w1, w.alloc (.cells #[.slice p L.length c, .slice q M.length d] 22) = w1 from ⟨_, rfl⟩)
  clear hA hb1 hL hM
  cases hsh : (decide (L.length ≤ 80) && decide (M.length ≤ 80)) with
  | false =>
    have hsh2 := Hsh.out
    rw [hsh] at hsh2
    have Hsh := Lib.hid hsh2
    clear hsh hsh2
    go_enter Tryz.func4, Tryz.ntmps4
    go_wp2_with (first
      | (go_at_call 8; refine Hsh.out.mono ?_; rintro e w2 ⟨rfl, hb2⟩; have Hb2 := Lib.hid (Hb1.out.step hb2); clear hb2)
      | (go_at_call 10; refine (awake_any w2).mono ?_; rintro e w3 ⟨rfl, hb3⟩; have Hb3 := Lib.hid (Hb2.out.step hb3); clear hb3))
    go_ret
    exact ⟨rfl, Hb3.out⟩
  | true =>
    have hsh2 := Hsh.out
    rw [hsh] at hsh2
    have Hsh := Lib.hid hsh2
    have hl80 : L.length ≤ 80 ∧ M.length ≤ 80 := by simpa using hsh
    obtain ⟨hl80, hm80⟩ := hl80
    clear hsh hsh2
    go_enter Tryz.func4, Tryz.ntmps4
    go_upto_region 4 with (first
      | (go_at_call 8; refine Hsh.out.mono ?_; rintro e w2 ⟨rfl, hb2⟩; have HL2 := Lib.hid (HL.out.below hb2); have HM2 := Lib.hid (HM.out.below hb2); have Hb2 := Lib.hid (Hb1.out.step hb2); clear hb2)
      | (go_at_call 11; refine (drawn_any p q c d L M w2 HL2.out HM2.out (by omega) (by omega)).mono ?_; rintro e w3 ⟨tv, T, v, V, n, B, rfl, ht, ho, hd, h1n, h7n, hv, hvv, hnn, hB, hb3⟩; obtain ⟨pT, cT, xs, rfl, ho⟩ := ho; obtain ⟨dv, cs, rfl, hv⟩ := hv; obtain ⟨x1, x2, x3, x4, x5, x6, x7, x8, rfl⟩ := hv.seven; have HT := Lib.hid ht; have HO := Lib.hid (show TOB w2.heap.size B w3 (.agg #[.slice pT T.nodes.length cT, .int .i64 T.root]) T from ⟨pT, cT, xs, rfl, ho⟩); have HD := Lib.hid hd; have HV := Lib.hid (show VW (we (lo B) w3) (.agg #[.int .i64 V.kind, .int .i64 V.num, .string V.text, .slice x1 V.kids.length x2, .slice x3 V.keys.length x4, .slice x5 V.ents.length x6, .slice x7 V.labels.length x8]) V from ⟨dv, _, rfl, hv⟩); have Hvv := Lib.hid hvv; have Hnn := Lib.hid hnn; have HB := Lib.hid hB; have Hb3 := Lib.hid hb3; have H1n := Lib.hid h1n; have H7n := Lib.hid h7n; clear ht ho hd hv hvv hnn hB hb3 h1n h7n))
    have hbx := boxes2 w3 (.cells #[.slice pT T.nodes.length cT, .int .i64 T.root] 31) (.cells #[.int .i64 V.kind, .int .i64 V.num, .string V.text, .slice x1 V.kids.length x2, .slice x3 V.keys.length x4, .slice x5 V.ents.length x6, .slice x7 V.labels.length x8] 28)
    obtain ⟨w5, e5, hT5, hV5, hb5⟩ := hbx
    rw [e5]
    have HT5 := Lib.hid hT5; have HV5 := Lib.hid hV5; have Hb5 := Lib.hid hb5
    have HDl := Lib.hid HD.out.len
    clear e5 hT5 hV5 hb5
    have hw35 : w3.heap.size ≤ w5.heap.size := Hb5.out.size
    have hn1 : 1 ≤ T.nodes.length := by have := HDl.out; have := H1n.out; omega
    have hn7 : T.nodes.length ≤ 7 := by have := HDl.out; have := H7n.out; omega
    have HT3 := Lib.hid (HT.out.sub (we_sub _ _))
    have hR := ts_rw HT3.out
    obtain ⟨cs, hrc, hch⟩ := hR.ch
    have hcl : T.nodes.length ≤ cT := hR.1.1
    have Hrc := Lib.hid (hrc.below Hb5.out); have Hch := Lib.hid hch
    have HV3 := Lib.hid (HV.out.sub (we_sub _ _))
    obtain ⟨t0, t1⟩ := cells2 HT5.out
    have dn : decide (1 ≤ T.nodes.length) = true := by simp [hn1]
    clear hR hrc hch hcl
    go_upto_region 6 with fail
    go_upto_region 7 with (at_builtin; first
      | (go_loud (refine wpList_append_ownrc rfl (.const (.slice none 0 0)) (.tmp 29) 29 rfl 48 (by kernel_rfl) node_info rfl (by decide) (by decide) w5.heap.size w5 pT 0 T.nodes.length cT [] cs (Nat.le_refl _) (.slice none 0 0) rfl rfl (World.ownsRow_nil _ _ _ _) Hrc.out (Hch.out.cells fun _ _ => NC.one) (by omega) ?_); intro v6 w6 ho6 hf6; have hb6 := hf6.below (Nat.le_refl _) (by simp) (fun g hg => by simp [Value.ownBlock] at hg); rw [Nat.zero_add, List.nil_append] at ho6; obtain ⟨p6, c6, rfl⟩ := own_slice ho6; have Ho6 := Lib.hid ho6; have Hb6 := Lib.hid hb6; clear ho6 hf6 hb6; have hbx := boxes4 w6 (.cells #[.int .i64 T.root] 3) (.cells #[.int .i64 T.root, .int .i64 ((T.nodes.length : Int) - 1)] 3) (.cells #[.int .i64 T.root, .int .i64 ((T.nodes.length : Int) - 1)] 3) (.cells #[.int .i64 18, .int .i64 0, .int .i64 0, .string ⟨#[]⟩, .slice (some ⟨w6.heap.size, 0, none⟩) 1 1, .slice none 0 0, .int .i64 0, .int .i64 0, .int .i64 16, .int .i64 0, .int .i64 0, .string ⟨#[]⟩, .slice (some ⟨w6.heap.size + 1, 0, none⟩) 2 2, .slice none 0 0, .int .i64 0, .int .i64 0, .int .i64 17, .int .i64 0, .int .i64 0, .string ⟨#[]⟩, .slice (some ⟨w6.heap.size + 1 + 1, 0, none⟩) 2 2, .slice none 0 0, .int .i64 0, .int .i64 0] 48); obtain ⟨w7, e7, g1, g2, g3, g4, hb7⟩ := hbx; have E7 := Lib.hid e7; have G1 := Lib.hid g1; have G2 := Lib.hid g2; have G3 := Lib.hid g3; have G4 := Lib.hid g4; have Hb7 := Lib.hid hb7; have Ho7 := Lib.hid (ownsRow_below Ho6.out hb7 (Nat.le_refl _)); clear e7 g1 g2 g3 g4 hb7)
      | (rw [E7.out]; go_loud (refine wpList_append_ownrc rfl (.tmp 30) (.tmp 44) 29 rfl 48 (by kernel_rfl) node_info rfl (by decide) (by decide) w5.heap.size w7 (some ⟨w6.heap.size + 1 + 1 + 1, 0, none⟩) T.nodes.length 3 3 cs (ncell 18 w6.heap.size 1 ++ (ncell 16 (w6.heap.size + 1) 2 ++ ncell 17 (w6.heap.size + 1 + 1) 2)) (Nat.le_trans Hb6.out.size Hb7.out.size) (.slice p6 T.nodes.length c6) rfl rfl Ho7.out (news_rc G4.out) (news_one _) (by omega) ?_); intro v8 w8 ho8 hf8; obtain ⟨p8, c8, rfl⟩ := own_slice ho8; have Ho8 := Lib.hid ho8; have Hf8 := Lib.hid hf8; have hb8 := hf8.below (B := w5.heap.size) (Nat.le_trans Hb6.out.size Hb7.out.size) (by simp) (fun g hg => (Ho7.out.lt g hg).1); have Hb8 := Lib.hid (Hb6.out.trans ((Hb7.out.mono Hb6.out.size).trans hb8)); have hT8 := (Hb8.out.block _ (heap_lt HT5.out)).trans HT5.out; have HT8 := Lib.hid hT8; have y0 : w8.cell? ⟨w3.heap.size, 0, none⟩ = some (.slice pT T.nodes.length cT) := (by simp [World.cell?, hT8]); have y1 : w8.frozen? ⟨w3.heap.size, 0, none⟩ = false := (by simp [World.frozen?, hT8]); clear ho8 hf8 hb8 hT8))
    have HU := Lib.hid (show Upd w3.heap.size (.cells #[.slice p8 (T.nodes.length + 3) c8, .int .i64 T.root] 31) w8 (w8.setCell ⟨w3.heap.size, 0, none⟩ (.slice p8 (T.nodes.length + 3) c8)) from Upd.cast (Upd.set (i := 0) (v := .slice p8 (T.nodes.length + 3) c8) (Upd.refl HT8.out)) rfl)
    clear y0 y1 t0 t1
    generalize w8.setCell ⟨w3.heap.size, 0, none⟩ (.slice p8 (T.nodes.length + 3) c8) = w9 at *
    have hlt5 := heap_lt HT5.out
    have h56 : w5.heap.size ≤ w6.heap.size := Hb6.out.size
    have h67 : w6.heap.size + 1 + 1 + 1 < w7.heap.size := heap_lt G4.out
    have gk : ∀ k, w6.heap.size ≤ k → k < w7.heap.size → w9.heap[k]? = w7.heap[k]? := fun k h1 h2 => (HU.out.other k (by omega)).trans (Hf8.out.block k h2 (by simp) fun e => by have := (Ho6.out.lt k e).2; omega)
    have hb39 : Below w3.heap.size w3 w9 := Hb5.out.trans ((Hb8.out.mono hw35).trans (HU.out.below (Nat.le_refl _)))
    have Hb39 := Lib.hid hb39
    have HT9 := Lib.hid HU.out.blk
    have HV9 := Lib.hid ((HU.out.other _ (by omega)).trans ((Hb8.out.block _ (heap_lt HV5.out)).trans HV5.out))
    have HTS := Lib.hid (cmp_ts (own_upd Ho8.out HU.out hlt5) (Hch.out.mono fun x cs _ h => h.below hb39) HT3.out.kids (by omega) ((gk _ (by omega) (by omega)).trans G1.out) ((gk _ (by omega) (by omega)).trans G2.out) ((gk _ (by omega) (by omega)).trans G3.out))
    have HVW := Lib.hid (HV3.out.below hb39)
    have HcL := Lib.hid (fun (k : Int) (x : Bool) (hx : mof (cmpT T) V k = x) (w' : World) (hb : Below w9.heap.size w9 w') => (by have := memberOf_any (cmpT T) V k w' _ _ (HVW.out.below hb) (HTS.out.below hb) (Nat.le_trans Hnn.out (by decide)) (cmp_sz HD.out (by have := H7n.out; omega)); rwa [hx] at this : Calls Tryz.prog 13 #[.agg #[.int .i64 V.kind, .int .i64 V.num, .string V.text, .slice x1 V.kids.length x2, .slice x3 V.keys.length x4, .slice x5 V.ents.length x6, .slice x7 V.labels.length x8], .agg #[.slice p8 (T.nodes.length + 3) c8, .int .i64 T.root], .int .i64 k] w' (ER x w')))
    obtain ⟨e0, e1, e2⟩ := cmp_law (HDl.out ▸ HD.out : TD T.nodes.length T) hn1 Hvv.out
    have Hw9 := Lib.hid (show Below w.heap.size w w9 from (Hb2.out.step Hb3.out).step hb39)
    have E0 := Lib.hid e0; have E1 := Lib.hid e1; have E2 := Lib.hid e2
    clear gk hb39 e0 e1 e2 HU Hf8 Ho8 G1 G2 G3 G4 Ho7 Ho6 Hb7 E7 Hrc Hch
    generalize hbt : w3.heap.size = bt at *
    generalize hbv : bt + 1 = bv at *
    clear hbt hbv
    cases ha : mof (cmpT T) V T.root <;> cases hb : mof (cmpT T) V ((T.nodes.length : Int) - 1)
    · have Hc1 := Lib.hid (HcL.out T.root false ha); have Hc2 := Lib.hid (HcL.out ((T.nodes.length : Int) - 1) false hb)
      have Hc3 := Lib.hid (HcL.out (T.nodes.length : Int) true (by rw [E0.out, ha]; rfl)); have Hc4 := Lib.hid (HcL.out ((T.nodes.length : Int) + 1) false (by rw [E1.out, ha, hb]; rfl)); have Hc5 := Lib.hid (HcL.out ((T.nodes.length : Int) + 2) false (by rw [E2.out, ha, hb]; rfl))
      clear ha hb
      have Y0t := Lib.hid (show w9.drew.cell? ⟨bt, 0, none⟩ = _ from (cells2 HT9.out).1)
      have Lt := Lib.hid (show bt < w9.drew.heap.size from heap_lt HT9.out)
      have Rt := Lib.hid (show w9.drew.heap[bt]? = _ from HT9.out)
      have Y0v := Lib.hid (show w9.drew.cell? ⟨bv, 0, none⟩ = _ from (cells7 HV9.out).1.1)
      have Lv := Lib.hid (show bv < w9.drew.heap.size from heap_lt HV9.out)
      have Rv := Lib.hid (show w9.drew.heap[bv]? = _ from HV9.out)
      have B0 := Lib.hid (show Below w9.heap.size w9 w9.drew from (Below.refl _ _).drew)
      obtain ⟨zt0, zt1⟩ := cells2 HT9.out
      obtain ⟨⟨zv0, zv1, zv2, zv3⟩, zv4, zv5, zv6⟩ := cells7 HV9.out
      go_upto_region 8 with (first
        | ((with_reducible refine Lex.at_finK ?_); refine LexK.finE_on (by kernel_rfl) (by repeat first | exact LexK.finL_nil | refine LexK.finL_none rfl ?_ | refine LexK.finL_skip (by decide +kernel) ?_ | refine LexK.finL_take rfl Lt.out Y0t.out ?_ | refine LexK.finL_take rfl Lv.out Y0v.out ?_) ?_)
        | ((with_reducible refine Lex.at_region ?_); refine LexK.wp_region_lexE (fun x => x < w9.drew.heap.size) (by kernel_rfl) (by decide +kernel) ?_)
        | ((with_reducible refine Lex.at_wpX ?_); with_reducible refine LexK.wpX_plain (by decide +kernel) ?_)
        | ((with_reducible refine Lex.at_wpX ?_); with_reducible refine LexK.wpX_call ?_)
        | ((with_reducible refine Lex.at_wpX ?_); with_reducible refine LexK.wpX_nil ?_)
        | ((with_reducible refine Lex.at_ext ?_); first | (with_reducible refine LexK.ext_on Hext.out ?_) | (refine LexK.ext_on (LexK.Ext.alloc _ _) ?_) | (refine LexK.ext_on (LexK.Ext.refl _) ?_))
        | (go_at_call 13; ((with_reducible refine (Hc1.out w9.drew B0.out).mono ?_); rintro e x0 ⟨rfl, q⟩; have Hext := Lib.hid (LexK.Ext.of_below (Kp := fun x => x < w9.drew.heap.size) q (Nat.le_refl _)); have B1 := Lib.hid (B0.out.step q); have q0 : Below w9.drew.heap.size w9.drew x0 := q; have Q0 := Lib.hid q0; clear zt0 zt1; obtain ⟨z0_t0, z0_t1⟩ := cells2 ((q0.block _ Lt.out).trans Rt.out); clear zv0 zv1 zv2 zv3 zv4 zv5 zv6; obtain ⟨⟨z0_v0, z0_v1, z0_v2, z0_v3⟩, z0_v4, z0_v5, z0_v6⟩ := cells7 ((q0.block _ Lv.out).trans Rv.out); clear q q0))
        | (go_at_call 13; ((with_reducible refine (Hc2.out x0 B1.out).mono ?_); rintro e x1 ⟨rfl, q⟩; have Hext := Lib.hid (LexK.Ext.of_below (Kp := fun x => x < w9.drew.heap.size) q (Nat.le_refl _)); have B2 := Lib.hid (B1.out.step q); have q0 : Below w9.drew.heap.size w9.drew x1 := Q0.out.trans (q.mono Q0.out.size); have Q1 := Lib.hid q0; clear z0_t0 z0_t1; obtain ⟨z1_t0, z1_t1⟩ := cells2 ((q0.block _ Lt.out).trans Rt.out); clear z0_v0 z0_v1 z0_v2 z0_v3 z0_v4 z0_v5 z0_v6; obtain ⟨⟨z1_v0, z1_v1, z1_v2, z1_v3⟩, z1_v4, z1_v5, z1_v6⟩ := cells7 ((q0.block _ Lv.out).trans Rv.out); clear q q0)))
      have Hw8 := Lib.hid B2.out
      have HTx := Lib.hid ((Q1.out.block _ Lt.out).trans Rt.out); have HVx := Lib.hid ((Q1.out.block _ Lv.out).trans Rv.out)
      clear z1_t0 z1_t1 z1_v0 z1_v1 z1_v2 z1_v3 z1_v4 z1_v5 z1_v6
      have Y0Bt := Lib.hid (show x1.cell? ⟨bt, 0, none⟩ = _ from (cells2 HTx.out).1)
      have LBt := Lib.hid (show bt < x1.heap.size from heap_lt HTx.out)
      have RBt := Lib.hid (show x1.heap[bt]? = _ from HTx.out)
      have Y0Bv := Lib.hid (show x1.cell? ⟨bv, 0, none⟩ = _ from (cells7 HVx.out).1.1)
      have LBv := Lib.hid (show bv < x1.heap.size from heap_lt HVx.out)
      have RBv := Lib.hid (show x1.heap[bv]? = _ from HVx.out)
      have BB0 := Lib.hid (show Below x1.heap.size x1 x1 from Below.refl _ _)
      obtain ⟨zBt0, zBt1⟩ := cells2 HTx.out
      obtain ⟨⟨zBv0, zBv1, zBv2, zBv3⟩, zBv4, zBv5, zBv6⟩ := cells7 HVx.out
      go_wp2_with (first
        | (go_at_call 13; ((with_reducible refine (Hc3.out x1 (Hw8.out.step BB0.out)).mono ?_); rintro e xB0 ⟨rfl, q⟩; have Hext := Lib.hid (LexK.Ext.of_below (Kp := fun x => x < x1.heap.size) q (Nat.le_refl _)); have BB1 := Lib.hid (BB0.out.step q); have q0 : Below x1.heap.size x1 xB0 := q; have QB0 := Lib.hid q0; clear zBt0 zBt1; obtain ⟨zB0_t0, zB0_t1⟩ := cells2 ((q0.block _ LBt.out).trans RBt.out); clear zBv0 zBv1 zBv2 zBv3 zBv4 zBv5 zBv6; obtain ⟨⟨zB0_v0, zB0_v1, zB0_v2, zB0_v3⟩, zB0_v4, zB0_v5, zB0_v6⟩ := cells7 ((q0.block _ LBv.out).trans RBv.out); clear q q0))
        | (go_at_call 13; ((with_reducible refine (Hc4.out xB0 (Hw8.out.step BB1.out)).mono ?_); rintro e xB1 ⟨rfl, q⟩; have Hext := Lib.hid (LexK.Ext.of_below (Kp := fun x => x < x1.heap.size) q (Nat.le_refl _)); have BB2 := Lib.hid (BB1.out.step q); have q0 : Below x1.heap.size x1 xB1 := QB0.out.trans (q.mono QB0.out.size); have QB1 := Lib.hid q0; clear zB0_t0 zB0_t1; obtain ⟨zB1_t0, zB1_t1⟩ := cells2 ((q0.block _ LBt.out).trans RBt.out); clear zB0_v0 zB0_v1 zB0_v2 zB0_v3 zB0_v4 zB0_v5 zB0_v6; obtain ⟨⟨zB1_v0, zB1_v1, zB1_v2, zB1_v3⟩, zB1_v4, zB1_v5, zB1_v6⟩ := cells7 ((q0.block _ LBv.out).trans RBv.out); clear q q0))
        | (go_at_call 13; ((with_reducible refine (Hc5.out xB1 (Hw8.out.step BB2.out)).mono ?_); rintro e xB2 ⟨rfl, q⟩; have Hext := Lib.hid (LexK.Ext.of_below (Kp := fun x => x < x1.heap.size) q (Nat.le_refl _)); have BB3 := Lib.hid (BB2.out.step q); have q0 : Below x1.heap.size x1 xB2 := QB1.out.trans (q.mono QB1.out.size); have QB2 := Lib.hid q0; clear zB1_t0 zB1_t1; obtain ⟨zB2_t0, zB2_t1⟩ := cells2 ((q0.block _ LBt.out).trans RBt.out); clear zB1_v0 zB1_v1 zB1_v2 zB1_v3 zB1_v4 zB1_v5 zB1_v6; obtain ⟨⟨zB2_v0, zB2_v1, zB2_v2, zB2_v3⟩, zB2_v4, zB2_v5, zB2_v6⟩ := cells7 ((q0.block _ LBv.out).trans RBv.out); clear q q0))
        | (go_at_call 10; ((with_reducible refine (awake_any xB2).mono ?_); rintro e xB3 ⟨rfl, q⟩; have Hext := Lib.hid (LexK.Ext.of_below (Kp := fun x => x < x1.heap.size) q (Nat.le_refl _)); have BB4 := Lib.hid (BB3.out.step q); have q0 : Below x1.heap.size x1 xB3 := QB2.out.trans (q.mono QB2.out.size); have QB3 := Lib.hid q0; clear zB2_t0 zB2_t1; obtain ⟨zB3_t0, zB3_t1⟩ := cells2 ((q0.block _ LBt.out).trans RBt.out); clear zB2_v0 zB2_v1 zB2_v2 zB2_v3 zB2_v4 zB2_v5 zB2_v6; obtain ⟨⟨zB3_v0, zB3_v1, zB3_v2, zB3_v3⟩, zB3_v4, zB3_v5, zB3_v6⟩ := cells7 ((q0.block _ LBv.out).trans RBv.out); clear q q0)))
      go_ret
      exact ⟨rfl, (Hw9.out.step Hw8.out).step BB4.out⟩
    · have Hc1 := Lib.hid (HcL.out T.root false ha); have Hc2 := Lib.hid (HcL.out ((T.nodes.length : Int) - 1) true hb)
      have Hc3 := Lib.hid (HcL.out (T.nodes.length : Int) true (by rw [E0.out, ha]; rfl)); have Hc4 := Lib.hid (HcL.out ((T.nodes.length : Int) + 1) true (by rw [E1.out, ha, hb]; rfl)); have Hc5 := Lib.hid (HcL.out ((T.nodes.length : Int) + 2) false (by rw [E2.out, ha, hb]; rfl))
      clear ha hb
      have Y0t := Lib.hid (show w9.drew.cell? ⟨bt, 0, none⟩ = _ from (cells2 HT9.out).1)
      have Lt := Lib.hid (show bt < w9.drew.heap.size from heap_lt HT9.out)
      have Rt := Lib.hid (show w9.drew.heap[bt]? = _ from HT9.out)
      have Y0v := Lib.hid (show w9.drew.cell? ⟨bv, 0, none⟩ = _ from (cells7 HV9.out).1.1)
      have Lv := Lib.hid (show bv < w9.drew.heap.size from heap_lt HV9.out)
      have Rv := Lib.hid (show w9.drew.heap[bv]? = _ from HV9.out)
      have B0 := Lib.hid (show Below w9.heap.size w9 w9.drew from (Below.refl _ _).drew)
      obtain ⟨zt0, zt1⟩ := cells2 HT9.out
      obtain ⟨⟨zv0, zv1, zv2, zv3⟩, zv4, zv5, zv6⟩ := cells7 HV9.out
      go_upto_region 8 with (first
        | ((with_reducible refine Lex.at_finK ?_); refine LexK.finE_on (by kernel_rfl) (by repeat first | exact LexK.finL_nil | refine LexK.finL_none rfl ?_ | refine LexK.finL_skip (by decide +kernel) ?_ | refine LexK.finL_take rfl Lt.out Y0t.out ?_ | refine LexK.finL_take rfl Lv.out Y0v.out ?_) ?_)
        | ((with_reducible refine Lex.at_region ?_); refine LexK.wp_region_lexE (fun x => x < w9.drew.heap.size) (by kernel_rfl) (by decide +kernel) ?_)
        | ((with_reducible refine Lex.at_wpX ?_); with_reducible refine LexK.wpX_plain (by decide +kernel) ?_)
        | ((with_reducible refine Lex.at_wpX ?_); with_reducible refine LexK.wpX_call ?_)
        | ((with_reducible refine Lex.at_wpX ?_); with_reducible refine LexK.wpX_nil ?_)
        | ((with_reducible refine Lex.at_ext ?_); first | (with_reducible refine LexK.ext_on Hext.out ?_) | (refine LexK.ext_on (LexK.Ext.alloc _ _) ?_) | (refine LexK.ext_on (LexK.Ext.refl _) ?_))
        | (go_at_call 13; ((with_reducible refine (Hc1.out w9.drew B0.out).mono ?_); rintro e x0 ⟨rfl, q⟩; have Hext := Lib.hid (LexK.Ext.of_below (Kp := fun x => x < w9.drew.heap.size) q (Nat.le_refl _)); have B1 := Lib.hid (B0.out.step q); have q0 : Below w9.drew.heap.size w9.drew x0 := q; have Q0 := Lib.hid q0; clear zt0 zt1; obtain ⟨z0_t0, z0_t1⟩ := cells2 ((q0.block _ Lt.out).trans Rt.out); clear zv0 zv1 zv2 zv3 zv4 zv5 zv6; obtain ⟨⟨z0_v0, z0_v1, z0_v2, z0_v3⟩, z0_v4, z0_v5, z0_v6⟩ := cells7 ((q0.block _ Lv.out).trans Rv.out); clear q q0))
        | (go_at_call 13; ((with_reducible refine (Hc2.out x0 B1.out).mono ?_); rintro e x1 ⟨rfl, q⟩; have Hext := Lib.hid (LexK.Ext.of_below (Kp := fun x => x < w9.drew.heap.size) q (Nat.le_refl _)); have B2 := Lib.hid (B1.out.step q); have q0 : Below w9.drew.heap.size w9.drew x1 := Q0.out.trans (q.mono Q0.out.size); have Q1 := Lib.hid q0; clear z0_t0 z0_t1; obtain ⟨z1_t0, z1_t1⟩ := cells2 ((q0.block _ Lt.out).trans Rt.out); clear z0_v0 z0_v1 z0_v2 z0_v3 z0_v4 z0_v5 z0_v6; obtain ⟨⟨z1_v0, z1_v1, z1_v2, z1_v3⟩, z1_v4, z1_v5, z1_v6⟩ := cells7 ((q0.block _ Lv.out).trans Rv.out); clear q q0)))
      have Hw8 := Lib.hid B2.out
      have HTx := Lib.hid ((Q1.out.block _ Lt.out).trans Rt.out); have HVx := Lib.hid ((Q1.out.block _ Lv.out).trans Rv.out)
      clear z1_t0 z1_t1 z1_v0 z1_v1 z1_v2 z1_v3 z1_v4 z1_v5 z1_v6
      have Y0Bt := Lib.hid (show x1.cell? ⟨bt, 0, none⟩ = _ from (cells2 HTx.out).1)
      have LBt := Lib.hid (show bt < x1.heap.size from heap_lt HTx.out)
      have RBt := Lib.hid (show x1.heap[bt]? = _ from HTx.out)
      have Y0Bv := Lib.hid (show x1.cell? ⟨bv, 0, none⟩ = _ from (cells7 HVx.out).1.1)
      have LBv := Lib.hid (show bv < x1.heap.size from heap_lt HVx.out)
      have RBv := Lib.hid (show x1.heap[bv]? = _ from HVx.out)
      have BB0 := Lib.hid (show Below x1.heap.size x1 x1 from Below.refl _ _)
      obtain ⟨zBt0, zBt1⟩ := cells2 HTx.out
      obtain ⟨⟨zBv0, zBv1, zBv2, zBv3⟩, zBv4, zBv5, zBv6⟩ := cells7 HVx.out
      go_wp2_with (first
        | (go_at_call 13; ((with_reducible refine (Hc3.out x1 (Hw8.out.step BB0.out)).mono ?_); rintro e xB0 ⟨rfl, q⟩; have Hext := Lib.hid (LexK.Ext.of_below (Kp := fun x => x < x1.heap.size) q (Nat.le_refl _)); have BB1 := Lib.hid (BB0.out.step q); have q0 : Below x1.heap.size x1 xB0 := q; have QB0 := Lib.hid q0; clear zBt0 zBt1; obtain ⟨zB0_t0, zB0_t1⟩ := cells2 ((q0.block _ LBt.out).trans RBt.out); clear zBv0 zBv1 zBv2 zBv3 zBv4 zBv5 zBv6; obtain ⟨⟨zB0_v0, zB0_v1, zB0_v2, zB0_v3⟩, zB0_v4, zB0_v5, zB0_v6⟩ := cells7 ((q0.block _ LBv.out).trans RBv.out); clear q q0))
        | (go_at_call 13; ((with_reducible refine (Hc4.out xB0 (Hw8.out.step BB1.out)).mono ?_); rintro e xB1 ⟨rfl, q⟩; have Hext := Lib.hid (LexK.Ext.of_below (Kp := fun x => x < x1.heap.size) q (Nat.le_refl _)); have BB2 := Lib.hid (BB1.out.step q); have q0 : Below x1.heap.size x1 xB1 := QB0.out.trans (q.mono QB0.out.size); have QB1 := Lib.hid q0; clear zB0_t0 zB0_t1; obtain ⟨zB1_t0, zB1_t1⟩ := cells2 ((q0.block _ LBt.out).trans RBt.out); clear zB0_v0 zB0_v1 zB0_v2 zB0_v3 zB0_v4 zB0_v5 zB0_v6; obtain ⟨⟨zB1_v0, zB1_v1, zB1_v2, zB1_v3⟩, zB1_v4, zB1_v5, zB1_v6⟩ := cells7 ((q0.block _ LBv.out).trans RBv.out); clear q q0))
        | (go_at_call 13; ((with_reducible refine (Hc5.out xB1 (Hw8.out.step BB2.out)).mono ?_); rintro e xB2 ⟨rfl, q⟩; have Hext := Lib.hid (LexK.Ext.of_below (Kp := fun x => x < x1.heap.size) q (Nat.le_refl _)); have BB3 := Lib.hid (BB2.out.step q); have q0 : Below x1.heap.size x1 xB2 := QB1.out.trans (q.mono QB1.out.size); have QB2 := Lib.hid q0; clear zB1_t0 zB1_t1; obtain ⟨zB2_t0, zB2_t1⟩ := cells2 ((q0.block _ LBt.out).trans RBt.out); clear zB1_v0 zB1_v1 zB1_v2 zB1_v3 zB1_v4 zB1_v5 zB1_v6; obtain ⟨⟨zB2_v0, zB2_v1, zB2_v2, zB2_v3⟩, zB2_v4, zB2_v5, zB2_v6⟩ := cells7 ((q0.block _ LBv.out).trans RBv.out); clear q q0))
        | (go_at_call 10; ((with_reducible refine (awake_any xB2).mono ?_); rintro e xB3 ⟨rfl, q⟩; have Hext := Lib.hid (LexK.Ext.of_below (Kp := fun x => x < x1.heap.size) q (Nat.le_refl _)); have BB4 := Lib.hid (BB3.out.step q); have q0 : Below x1.heap.size x1 xB3 := QB2.out.trans (q.mono QB2.out.size); have QB3 := Lib.hid q0; clear zB2_t0 zB2_t1; obtain ⟨zB3_t0, zB3_t1⟩ := cells2 ((q0.block _ LBt.out).trans RBt.out); clear zB2_v0 zB2_v1 zB2_v2 zB2_v3 zB2_v4 zB2_v5 zB2_v6; obtain ⟨⟨zB3_v0, zB3_v1, zB3_v2, zB3_v3⟩, zB3_v4, zB3_v5, zB3_v6⟩ := cells7 ((q0.block _ LBv.out).trans RBv.out); clear q q0)))
      go_ret
      exact ⟨rfl, (Hw9.out.step Hw8.out).step BB4.out⟩
    · have Hc1 := Lib.hid (HcL.out T.root true ha); have Hc2 := Lib.hid (HcL.out ((T.nodes.length : Int) - 1) false hb)
      have Hc3 := Lib.hid (HcL.out (T.nodes.length : Int) false (by rw [E0.out, ha]; rfl)); have Hc4 := Lib.hid (HcL.out ((T.nodes.length : Int) + 1) true (by rw [E1.out, ha, hb]; rfl)); have Hc5 := Lib.hid (HcL.out ((T.nodes.length : Int) + 2) false (by rw [E2.out, ha, hb]; rfl))
      clear ha hb
      have Y0t := Lib.hid (show w9.drew.cell? ⟨bt, 0, none⟩ = _ from (cells2 HT9.out).1)
      have Lt := Lib.hid (show bt < w9.drew.heap.size from heap_lt HT9.out)
      have Rt := Lib.hid (show w9.drew.heap[bt]? = _ from HT9.out)
      have Y0v := Lib.hid (show w9.drew.cell? ⟨bv, 0, none⟩ = _ from (cells7 HV9.out).1.1)
      have Lv := Lib.hid (show bv < w9.drew.heap.size from heap_lt HV9.out)
      have Rv := Lib.hid (show w9.drew.heap[bv]? = _ from HV9.out)
      have B0 := Lib.hid (show Below w9.heap.size w9 w9.drew from (Below.refl _ _).drew)
      obtain ⟨zt0, zt1⟩ := cells2 HT9.out
      obtain ⟨⟨zv0, zv1, zv2, zv3⟩, zv4, zv5, zv6⟩ := cells7 HV9.out
      go_upto_region 8 with (first
        | ((with_reducible refine Lex.at_finK ?_); refine LexK.finE_on (by kernel_rfl) (by repeat first | exact LexK.finL_nil | refine LexK.finL_none rfl ?_ | refine LexK.finL_skip (by decide +kernel) ?_ | refine LexK.finL_take rfl Lt.out Y0t.out ?_ | refine LexK.finL_take rfl Lv.out Y0v.out ?_) ?_)
        | ((with_reducible refine Lex.at_region ?_); refine LexK.wp_region_lexE (fun x => x < w9.drew.heap.size) (by kernel_rfl) (by decide +kernel) ?_)
        | ((with_reducible refine Lex.at_wpX ?_); with_reducible refine LexK.wpX_plain (by decide +kernel) ?_)
        | ((with_reducible refine Lex.at_wpX ?_); with_reducible refine LexK.wpX_call ?_)
        | ((with_reducible refine Lex.at_wpX ?_); with_reducible refine LexK.wpX_nil ?_)
        | ((with_reducible refine Lex.at_ext ?_); first | (with_reducible refine LexK.ext_on Hext.out ?_) | (refine LexK.ext_on (LexK.Ext.alloc _ _) ?_) | (refine LexK.ext_on (LexK.Ext.refl _) ?_))
        | (go_at_call 13; ((with_reducible refine (Hc1.out w9.drew B0.out).mono ?_); rintro e x0 ⟨rfl, q⟩; have Hext := Lib.hid (LexK.Ext.of_below (Kp := fun x => x < w9.drew.heap.size) q (Nat.le_refl _)); have B1 := Lib.hid (B0.out.step q); have q0 : Below w9.drew.heap.size w9.drew x0 := q; have Q0 := Lib.hid q0; clear zt0 zt1; obtain ⟨z0_t0, z0_t1⟩ := cells2 ((q0.block _ Lt.out).trans Rt.out); clear zv0 zv1 zv2 zv3 zv4 zv5 zv6; obtain ⟨⟨z0_v0, z0_v1, z0_v2, z0_v3⟩, z0_v4, z0_v5, z0_v6⟩ := cells7 ((q0.block _ Lv.out).trans Rv.out); clear q q0))
        | (go_at_call 13; ((with_reducible refine (Hc2.out x0 B1.out).mono ?_); rintro e x1 ⟨rfl, q⟩; have Hext := Lib.hid (LexK.Ext.of_below (Kp := fun x => x < w9.drew.heap.size) q (Nat.le_refl _)); have B2 := Lib.hid (B1.out.step q); have q0 : Below w9.drew.heap.size w9.drew x1 := Q0.out.trans (q.mono Q0.out.size); have Q1 := Lib.hid q0; clear z0_t0 z0_t1; obtain ⟨z1_t0, z1_t1⟩ := cells2 ((q0.block _ Lt.out).trans Rt.out); clear z0_v0 z0_v1 z0_v2 z0_v3 z0_v4 z0_v5 z0_v6; obtain ⟨⟨z1_v0, z1_v1, z1_v2, z1_v3⟩, z1_v4, z1_v5, z1_v6⟩ := cells7 ((q0.block _ Lv.out).trans Rv.out); clear q q0)))
      have Hw8 := Lib.hid B2.out
      have HTx := Lib.hid ((Q1.out.block _ Lt.out).trans Rt.out); have HVx := Lib.hid ((Q1.out.block _ Lv.out).trans Rv.out)
      clear z1_t0 z1_t1 z1_v0 z1_v1 z1_v2 z1_v3 z1_v4 z1_v5 z1_v6
      have Y0Bt := Lib.hid (show x1.cell? ⟨bt, 0, none⟩ = _ from (cells2 HTx.out).1)
      have LBt := Lib.hid (show bt < x1.heap.size from heap_lt HTx.out)
      have RBt := Lib.hid (show x1.heap[bt]? = _ from HTx.out)
      have Y0Bv := Lib.hid (show x1.cell? ⟨bv, 0, none⟩ = _ from (cells7 HVx.out).1.1)
      have LBv := Lib.hid (show bv < x1.heap.size from heap_lt HVx.out)
      have RBv := Lib.hid (show x1.heap[bv]? = _ from HVx.out)
      have BB0 := Lib.hid (show Below x1.heap.size x1 x1 from Below.refl _ _)
      obtain ⟨zBt0, zBt1⟩ := cells2 HTx.out
      obtain ⟨⟨zBv0, zBv1, zBv2, zBv3⟩, zBv4, zBv5, zBv6⟩ := cells7 HVx.out
      go_wp2_with (first
        | (go_at_call 13; ((with_reducible refine (Hc3.out x1 (Hw8.out.step BB0.out)).mono ?_); rintro e xB0 ⟨rfl, q⟩; have Hext := Lib.hid (LexK.Ext.of_below (Kp := fun x => x < x1.heap.size) q (Nat.le_refl _)); have BB1 := Lib.hid (BB0.out.step q); have q0 : Below x1.heap.size x1 xB0 := q; have QB0 := Lib.hid q0; clear zBt0 zBt1; obtain ⟨zB0_t0, zB0_t1⟩ := cells2 ((q0.block _ LBt.out).trans RBt.out); clear zBv0 zBv1 zBv2 zBv3 zBv4 zBv5 zBv6; obtain ⟨⟨zB0_v0, zB0_v1, zB0_v2, zB0_v3⟩, zB0_v4, zB0_v5, zB0_v6⟩ := cells7 ((q0.block _ LBv.out).trans RBv.out); clear q q0))
        | (go_at_call 13; ((with_reducible refine (Hc4.out xB0 (Hw8.out.step BB1.out)).mono ?_); rintro e xB1 ⟨rfl, q⟩; have Hext := Lib.hid (LexK.Ext.of_below (Kp := fun x => x < x1.heap.size) q (Nat.le_refl _)); have BB2 := Lib.hid (BB1.out.step q); have q0 : Below x1.heap.size x1 xB1 := QB0.out.trans (q.mono QB0.out.size); have QB1 := Lib.hid q0; clear zB0_t0 zB0_t1; obtain ⟨zB1_t0, zB1_t1⟩ := cells2 ((q0.block _ LBt.out).trans RBt.out); clear zB0_v0 zB0_v1 zB0_v2 zB0_v3 zB0_v4 zB0_v5 zB0_v6; obtain ⟨⟨zB1_v0, zB1_v1, zB1_v2, zB1_v3⟩, zB1_v4, zB1_v5, zB1_v6⟩ := cells7 ((q0.block _ LBv.out).trans RBv.out); clear q q0))
        | (go_at_call 13; ((with_reducible refine (Hc5.out xB1 (Hw8.out.step BB2.out)).mono ?_); rintro e xB2 ⟨rfl, q⟩; have Hext := Lib.hid (LexK.Ext.of_below (Kp := fun x => x < x1.heap.size) q (Nat.le_refl _)); have BB3 := Lib.hid (BB2.out.step q); have q0 : Below x1.heap.size x1 xB2 := QB1.out.trans (q.mono QB1.out.size); have QB2 := Lib.hid q0; clear zB1_t0 zB1_t1; obtain ⟨zB2_t0, zB2_t1⟩ := cells2 ((q0.block _ LBt.out).trans RBt.out); clear zB1_v0 zB1_v1 zB1_v2 zB1_v3 zB1_v4 zB1_v5 zB1_v6; obtain ⟨⟨zB2_v0, zB2_v1, zB2_v2, zB2_v3⟩, zB2_v4, zB2_v5, zB2_v6⟩ := cells7 ((q0.block _ LBv.out).trans RBv.out); clear q q0))
        | (go_at_call 10; ((with_reducible refine (awake_any xB2).mono ?_); rintro e xB3 ⟨rfl, q⟩; have Hext := Lib.hid (LexK.Ext.of_below (Kp := fun x => x < x1.heap.size) q (Nat.le_refl _)); have BB4 := Lib.hid (BB3.out.step q); have q0 : Below x1.heap.size x1 xB3 := QB2.out.trans (q.mono QB2.out.size); have QB3 := Lib.hid q0; clear zB2_t0 zB2_t1; obtain ⟨zB3_t0, zB3_t1⟩ := cells2 ((q0.block _ LBt.out).trans RBt.out); clear zB2_v0 zB2_v1 zB2_v2 zB2_v3 zB2_v4 zB2_v5 zB2_v6; obtain ⟨⟨zB3_v0, zB3_v1, zB3_v2, zB3_v3⟩, zB3_v4, zB3_v5, zB3_v6⟩ := cells7 ((q0.block _ LBv.out).trans RBv.out); clear q q0)))
      go_ret
      exact ⟨rfl, (Hw9.out.step Hw8.out).step BB4.out⟩
    · have Hc1 := Lib.hid (HcL.out T.root true ha); have Hc2 := Lib.hid (HcL.out ((T.nodes.length : Int) - 1) true hb)
      have Hc3 := Lib.hid (HcL.out (T.nodes.length : Int) false (by rw [E0.out, ha]; rfl)); have Hc4 := Lib.hid (HcL.out ((T.nodes.length : Int) + 1) true (by rw [E1.out, ha, hb]; rfl)); have Hc5 := Lib.hid (HcL.out ((T.nodes.length : Int) + 2) true (by rw [E2.out, ha, hb]; rfl))
      clear ha hb
      have Y0t := Lib.hid (show w9.drew.cell? ⟨bt, 0, none⟩ = _ from (cells2 HT9.out).1)
      have Lt := Lib.hid (show bt < w9.drew.heap.size from heap_lt HT9.out)
      have Rt := Lib.hid (show w9.drew.heap[bt]? = _ from HT9.out)
      have Y0v := Lib.hid (show w9.drew.cell? ⟨bv, 0, none⟩ = _ from (cells7 HV9.out).1.1)
      have Lv := Lib.hid (show bv < w9.drew.heap.size from heap_lt HV9.out)
      have Rv := Lib.hid (show w9.drew.heap[bv]? = _ from HV9.out)
      have B0 := Lib.hid (show Below w9.heap.size w9 w9.drew from (Below.refl _ _).drew)
      obtain ⟨zt0, zt1⟩ := cells2 HT9.out
      obtain ⟨⟨zv0, zv1, zv2, zv3⟩, zv4, zv5, zv6⟩ := cells7 HV9.out
      go_upto_region 8 with (first
        | ((with_reducible refine Lex.at_finK ?_); refine LexK.finE_on (by kernel_rfl) (by repeat first | exact LexK.finL_nil | refine LexK.finL_none rfl ?_ | refine LexK.finL_skip (by decide +kernel) ?_ | refine LexK.finL_take rfl Lt.out Y0t.out ?_ | refine LexK.finL_take rfl Lv.out Y0v.out ?_) ?_)
        | ((with_reducible refine Lex.at_region ?_); refine LexK.wp_region_lexE (fun x => x < w9.drew.heap.size) (by kernel_rfl) (by decide +kernel) ?_)
        | ((with_reducible refine Lex.at_wpX ?_); with_reducible refine LexK.wpX_plain (by decide +kernel) ?_)
        | ((with_reducible refine Lex.at_wpX ?_); with_reducible refine LexK.wpX_call ?_)
        | ((with_reducible refine Lex.at_wpX ?_); with_reducible refine LexK.wpX_nil ?_)
        | ((with_reducible refine Lex.at_ext ?_); first | (with_reducible refine LexK.ext_on Hext.out ?_) | (refine LexK.ext_on (LexK.Ext.alloc _ _) ?_) | (refine LexK.ext_on (LexK.Ext.refl _) ?_))
        | (go_at_call 13; ((with_reducible refine (Hc1.out w9.drew B0.out).mono ?_); rintro e x0 ⟨rfl, q⟩; have Hext := Lib.hid (LexK.Ext.of_below (Kp := fun x => x < w9.drew.heap.size) q (Nat.le_refl _)); have B1 := Lib.hid (B0.out.step q); have q0 : Below w9.drew.heap.size w9.drew x0 := q; have Q0 := Lib.hid q0; clear zt0 zt1; obtain ⟨z0_t0, z0_t1⟩ := cells2 ((q0.block _ Lt.out).trans Rt.out); clear zv0 zv1 zv2 zv3 zv4 zv5 zv6; obtain ⟨⟨z0_v0, z0_v1, z0_v2, z0_v3⟩, z0_v4, z0_v5, z0_v6⟩ := cells7 ((q0.block _ Lv.out).trans Rv.out); clear q q0))
        | (go_at_call 13; ((with_reducible refine (Hc2.out x0 B1.out).mono ?_); rintro e x1 ⟨rfl, q⟩; have Hext := Lib.hid (LexK.Ext.of_below (Kp := fun x => x < w9.drew.heap.size) q (Nat.le_refl _)); have B2 := Lib.hid (B1.out.step q); have q0 : Below w9.drew.heap.size w9.drew x1 := Q0.out.trans (q.mono Q0.out.size); have Q1 := Lib.hid q0; clear z0_t0 z0_t1; obtain ⟨z1_t0, z1_t1⟩ := cells2 ((q0.block _ Lt.out).trans Rt.out); clear z0_v0 z0_v1 z0_v2 z0_v3 z0_v4 z0_v5 z0_v6; obtain ⟨⟨z1_v0, z1_v1, z1_v2, z1_v3⟩, z1_v4, z1_v5, z1_v6⟩ := cells7 ((q0.block _ Lv.out).trans Rv.out); clear q q0)))
      have Hw8 := Lib.hid B2.out
      have HTx := Lib.hid ((Q1.out.block _ Lt.out).trans Rt.out); have HVx := Lib.hid ((Q1.out.block _ Lv.out).trans Rv.out)
      clear z1_t0 z1_t1 z1_v0 z1_v1 z1_v2 z1_v3 z1_v4 z1_v5 z1_v6
      have Y0Bt := Lib.hid (show x1.cell? ⟨bt, 0, none⟩ = _ from (cells2 HTx.out).1)
      have LBt := Lib.hid (show bt < x1.heap.size from heap_lt HTx.out)
      have RBt := Lib.hid (show x1.heap[bt]? = _ from HTx.out)
      have Y0Bv := Lib.hid (show x1.cell? ⟨bv, 0, none⟩ = _ from (cells7 HVx.out).1.1)
      have LBv := Lib.hid (show bv < x1.heap.size from heap_lt HVx.out)
      have RBv := Lib.hid (show x1.heap[bv]? = _ from HVx.out)
      have BB0 := Lib.hid (show Below x1.heap.size x1 x1 from Below.refl _ _)
      obtain ⟨zBt0, zBt1⟩ := cells2 HTx.out
      obtain ⟨⟨zBv0, zBv1, zBv2, zBv3⟩, zBv4, zBv5, zBv6⟩ := cells7 HVx.out
      go_wp2_with (first
        | (go_at_call 13; ((with_reducible refine (Hc3.out x1 (Hw8.out.step BB0.out)).mono ?_); rintro e xB0 ⟨rfl, q⟩; have Hext := Lib.hid (LexK.Ext.of_below (Kp := fun x => x < x1.heap.size) q (Nat.le_refl _)); have BB1 := Lib.hid (BB0.out.step q); have q0 : Below x1.heap.size x1 xB0 := q; have QB0 := Lib.hid q0; clear zBt0 zBt1; obtain ⟨zB0_t0, zB0_t1⟩ := cells2 ((q0.block _ LBt.out).trans RBt.out); clear zBv0 zBv1 zBv2 zBv3 zBv4 zBv5 zBv6; obtain ⟨⟨zB0_v0, zB0_v1, zB0_v2, zB0_v3⟩, zB0_v4, zB0_v5, zB0_v6⟩ := cells7 ((q0.block _ LBv.out).trans RBv.out); clear q q0))
        | (go_at_call 13; ((with_reducible refine (Hc4.out xB0 (Hw8.out.step BB1.out)).mono ?_); rintro e xB1 ⟨rfl, q⟩; have Hext := Lib.hid (LexK.Ext.of_below (Kp := fun x => x < x1.heap.size) q (Nat.le_refl _)); have BB2 := Lib.hid (BB1.out.step q); have q0 : Below x1.heap.size x1 xB1 := QB0.out.trans (q.mono QB0.out.size); have QB1 := Lib.hid q0; clear zB0_t0 zB0_t1; obtain ⟨zB1_t0, zB1_t1⟩ := cells2 ((q0.block _ LBt.out).trans RBt.out); clear zB0_v0 zB0_v1 zB0_v2 zB0_v3 zB0_v4 zB0_v5 zB0_v6; obtain ⟨⟨zB1_v0, zB1_v1, zB1_v2, zB1_v3⟩, zB1_v4, zB1_v5, zB1_v6⟩ := cells7 ((q0.block _ LBv.out).trans RBv.out); clear q q0))
        | (go_at_call 13; ((with_reducible refine (Hc5.out xB1 (Hw8.out.step BB2.out)).mono ?_); rintro e xB2 ⟨rfl, q⟩; have Hext := Lib.hid (LexK.Ext.of_below (Kp := fun x => x < x1.heap.size) q (Nat.le_refl _)); have BB3 := Lib.hid (BB2.out.step q); have q0 : Below x1.heap.size x1 xB2 := QB1.out.trans (q.mono QB1.out.size); have QB2 := Lib.hid q0; clear zB1_t0 zB1_t1; obtain ⟨zB2_t0, zB2_t1⟩ := cells2 ((q0.block _ LBt.out).trans RBt.out); clear zB1_v0 zB1_v1 zB1_v2 zB1_v3 zB1_v4 zB1_v5 zB1_v6; obtain ⟨⟨zB2_v0, zB2_v1, zB2_v2, zB2_v3⟩, zB2_v4, zB2_v5, zB2_v6⟩ := cells7 ((q0.block _ LBv.out).trans RBv.out); clear q q0))
        | (go_at_call 10; ((with_reducible refine (awake_any xB2).mono ?_); rintro e xB3 ⟨rfl, q⟩; have Hext := Lib.hid (LexK.Ext.of_below (Kp := fun x => x < x1.heap.size) q (Nat.le_refl _)); have BB4 := Lib.hid (BB3.out.step q); have q0 : Below x1.heap.size x1 xB3 := QB2.out.trans (q.mono QB2.out.size); have QB3 := Lib.hid q0; clear zB2_t0 zB2_t1; obtain ⟨zB3_t0, zB3_t1⟩ := cells2 ((q0.block _ LBt.out).trans RBt.out); clear zB2_v0 zB2_v1 zB2_v2 zB2_v3 zB2_v4 zB2_v5 zB2_v6; obtain ⟨⟨zB3_v0, zB3_v1, zB3_v2, zB3_v3⟩, zB3_v4, zB3_v5, zB3_v6⟩ := cells7 ((q0.block _ LBv.out).trans RBv.out); clear q q0)))
      go_ret
      exact ⟨rfl, (Hw9.out.step Hw8.out).step BB4.out⟩
end Go.Proofs.YtjgldaaofdpcgaaGreat
namespace Go.Proofs.YtjgldaaofdpcgaaGreat.memberComplements
open Go.ChangeShapes Go.WideShapes Go.ChangeAt Go.RowKit
open Go.ChangeMaps (open_string shut_string)
set_option linter.unusedVariables false

theorem own : ownKnob Tryz.prog.godebug = none := by kernel_rfl
theorem laidOut : laidOutB Tryz.prog = true := by kernel_rfl
set_option maxRecDepth 100000 in
theorem contract (H : Type) (enc : TypeId × Value → H) (W : World) (base : Nat) (args : Array Value) (ds gs : List (DataW H)) (before : List MemPlace)
    (hval0 : ∀ (j : Nat) t v, Tryz.f4.params[j]? = some t → args[j]? = some v → Value.okWide Tryz.prog W .any base t v)
    (hW : DataW.Whole enc Tryz.prog Tryz.f4.params.toList Rows.memberComplementsSpec.vars false W args.toList ds gs before) :
    Calls Tryz.prog 4 args W fun e W' => ∃ v, e = .returned v ∧ Rows.memberComplementsSpec.post enc Tryz.prog Tryz.f4 false true false false W args v W' := by
  have hval : ∀ (j : Nat) t v, Tryz.f4.params[j]? = some t → args[j]? = some v → Value.okWide Tryz.prog W .any base t v := hval0
  have hW' := hW
  obtain ⟨p, q, hA0, hV, rfl, hfz, hnd⟩ := hW
  have hA : DataW.TrodAll enc Tryz.prog W 0 (fun _ => true) true Tryz.f4.params.toList args.toList ds p := hA0
  rw [Tryz.params4] at hA hval
  obtain ⟨v0, vs0, d0, ds0, p0, q0, hargs, rfl, rfl, h0, r0⟩ := trodAll_cons hA
  obtain ⟨v1, vs1, d1, ds1, p1, q1, rfl, rfl, rfl, h1, r1⟩ := trodAll_cons r0
  obtain ⟨rfl, rfl, rfl⟩ := trodAll_nil r1
  obtain rfl : args = #[v0, v1] := by cases args; simp_all
  obtain ⟨rfl, rfl⟩ := trodVars_none hV
  clear hA0 hval0
  have k0 := h0
  have lt0 : ∀ x ∈ p0, x.block < W.heap.size := by obtain ⟨m, hm⟩ := k0; exact DataW.trod_lt m _ _ _ hm
  have k1 := h1
  have lt1 : ∀ x ∈ p1, x.block < W.heap.size := by obtain ⟨m, hm⟩ := k1; exact DataW.trod_lt m _ _ _ hm
  obtain ⟨s0, len0, cap0, rfl⟩ := okWide_slice Tryz.underlying22 (hval 0 22 v0 rfl rfl)
  obtain ⟨fuel0, hf0⟩ := h0
  obtain ⟨s1, len1, cap1, rfl⟩ := okWide_slice Tryz.underlying22 (hval 1 22 v1 rfl rfl)
  obtain ⟨fuel1, hf1⟩ := h1
  obtain ⟨L0, hL0, hl0, hw0⟩ := ints_of hf0
  obtain ⟨L1, hL1, hl1, hw1⟩ := ints_of hf1
  obtain ⟨p0', c0', e0, -⟩ := id hL0
  obtain ⟨p1', c1', e1, -⟩ := id hL1
  injection e0 with e01 e02 e03
  injection e1 with e11 e12 e13
  subst e01 e02 e03 e11 e12 e13
  refine ((complements_any _ _ _ _ L0 L1 W hL0 hL1 : Calls Tryz.prog 4 _ W _)).mono fun e W' ⟨he, bel⟩ => ?_
  subst he
  exact ⟨_, rfl, _, _, _, [], _, [], hW', trodAll_mk1 (shut_bool Tryz.underlying4 _), (trodAll_cons_mk (Below.trod laidOut (by kernel_rfl) (of_decide_eq_true (by kernel_rfl)) k0 bel lt0) (trodAll_cons_mk (Below.trod laidOut (by kernel_rfl) (of_decide_eq_true (by kernel_rfl)) k1 bel lt1) trodAll_mk0)), rfl, bel.frame _, fun h => by cases h⟩
set_option maxRecDepth 100000 in
theorem lifted (os : Os) (started : os.Started) (H : Type) (enc : TypeId × Value → H) :
    ReturnsInHanded {} Tryz.checked os 4 .any (Rows.memberComplementsSpec.pre6 enc Tryz.prog Tryz.f4 Rows.memberComplementsRow.domain false) (Rows.memberComplementsSpec.post enc Tryz.prog Tryz.f4 false true false false) := by
  refine returnsInHanded_of_change (C := Tryz.checked) own started (by kernel_rfl) Tryz.func4
    (ChangeSpec.witness6 (enc := enc) (C := Tryz.checked) false ⟨#[], #[.slice none 0 0, .slice none 0 0], []⟩ 8 (by kernel_rfl) (by kernel_rfl) (by kernel_rfl) (by kernel_rfl)) ?_
  intro W base args ds gs before hval hW _ _
  exact contract H enc W base args ds gs before hval hW
theorem memberComplements_holds : Rows.MemberComplementsSaid :=
  OpenClaim.holds_of_wide 4 Tryz.f4 rfl rfl rfl rfl rfl rfl rfl ⟨rfl, rfl, rfl, rfl, rfl⟩ rfl rfl rfl rfl rfl (by kernel_rfl) Tryz.func4 (by kernel_rfl)
    (of_decide_eq_true (by kernel_rfl)) (by unfold Func.isWrapper; first | (rw [if_pos (by decide +kernel)]; kernel_rfl) | (rw [if_neg (by decide +kernel)]; exact ⟨rfl, rfl⟩))
    (fun os started H enc _ => lifted os started H enc)
end Go.Proofs.YtjgldaaofdpcgaaGreat.memberComplements
