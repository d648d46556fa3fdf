/-
  Walks: Valid.
-/
import Derived.Test.YtkppcibffbnhoaaB2
namespace Go.Proofs.Ytkppcibffbnhoaa
open Go.RowKit

theorem newbuilder_pack (w : World) : Calls Try.prog 29 #[] w fun e w' => ∃ b kb, e = .returned (.pointer (some ⟨b, 0, none⟩)) ∧ BD w' w.heap.size b kb (.slice none 0 0) [] ∧ w.heap.size ≤ b ∧ w.heap.size ≤ kb ∧ Below w.heap.size w w' := by
  refine (newbuilder_any w).mono ?_
  rintro e w' ⟨rfl, h1, h2, h3⟩
  exact ⟨_, _, rfl, h1.lower (by omega), by omega, by omega, h2⟩
theorem BD.fr {w w' : World} {B b kb : Nat} {v v' : Value} {N : List Tri} (h : BD w B b kb v N) (hf : Fr [b, kb] v v' w w') {x : Nat} {cs : Array Value} {t : TypeId} (hx : w.heap[x]? = some (.cells cs t)) (h1 : t ≠ 78) (h2 : t ≠ 32) : w'.heap[x]? = some (.cells cs t) := by
  obtain ⟨es, ck, hm⟩ := h.kn.obj
  refine (hf.block x (heap_lt hx) ?_ (own_ne h.own hx h2)).trans hx
  simp only [List.mem_cons, List.not_mem_nil, or_false, not_or]
  exact ⟨ne_of hx h.blk (by simp [h1]), ne_of hx hm (by simp)⟩

/-- What Valid answers. -/
def VR (N : List IT) (r : Int) (w : World) (e : Ending) (w' : World) : Prop := ∃ b : Bool, e = .returned (.bool b) ∧ (b = true ↔ Good N r) ∧ Below w.heap.size w w'
theorem VR.no {N : List IT} {r : Int} {w w' : World} (h : ¬ Good N r) (hb : Below w.heap.size w w') : VR N r w (.returned (.bool false)) w' := ⟨false, rfl, ⟨fun h => (by cases h), fun hg => absurd hg h⟩, hb⟩
theorem VR.yes {N : List IT} {r : Int} {w w' : World} (h : Good N r) (hb : Below w.heap.size w w') : VR N r w (.returned (.bool true)) w' := ⟨true, rfl, ⟨fun _ => h, fun _ => rfl⟩, hb⟩
theorem below_drewN {B : Nat} {a w : World} (h : Below B a w) (n : Nat) : Below B a (w.drewN n) := ⟨h.os, h.tape, h.output, h.size, h.block⟩
theorem NI.drewN {w : World} {p : Option Addr} {N : List IT} (h : NI w p N) (n : Nat) : NI (w.drewN n) p N := h
/-- What the loop of Valid has. -/
structure VI (w : World) (b kb : Nat) (p : Option Addr) (cap : Nat) (N : List IT) (r : Int) (L : List T) (v : Value) (wr : World) : Prop where
  wf : Wf L
  bd : BD wr w.heap.size b kb v (nodes L)
  dv : wr.heap[w.heap.size]? = some (.cells #[.slice p N.length cap, .int .i64 r] 24)
  below : Below w.heap.size w wr

set_option maxRecDepth 100000 in
set_option maxHeartbeats 4000000 in
theorem valid_any (p : Option Addr) (cap : Nat) (N : List IT) (r : Int) (w : World) (hni : NI w p N) (hN : N.length ≤ 65536) :
    Calls Try.prog 11 #[.agg #[.slice p N.length cap, .int .i64 r]] w (VR N r w) := by
  have hA := (Below.refl w.heap.size w).alloc (Nat.le_refl _) (.cells #[.slice p N.length cap, .int .i64 r] 24)
  have hnA := heap_alloc_new w (.cells #[.slice p N.length cap, .int .i64 r] 24)
  have hNB := newbuilder_pack (w.alloc (.cells #[.slice p N.length cap, .int .i64 r] 24))
  have Hni0 := Lib.hid hni; clear hni
  have Hs := Lib.hid (show (w.alloc (.cells #[.slice p N.length cap, .int .i64 r] 24)).heap.size = w.heap.size + 1 by simp)
  go_enter Try.func11, Try.ntmps11
  go_upto_region 2 with (go_at_call 29; refine hNB.mono ?_; rintro e w2 ⟨b, kb, rfl, hB2, hb1, hk1, hb2⟩; have HB2 := Lib.hid hB2; clear hB2)
  have hd2 : w2.heap[w.heap.size]? = some (.cells #[.slice p N.length cap, .int .i64 r] 24) := (hb2.block _ (heap_lt hnA)).trans hnA
  have hV2 : VI w b kb p cap N r [] (.slice none 0 0) w2 := ⟨Wf.nil, HB2.out.lower (by have := Hs.out; omega), hd2, hA.trans (hb2.mono (by have := Hs.out; omega))⟩
  have hbl : w.heap.size ≤ b := by have := Hs.out; omega
  have hkl : w.heap.size ≤ kb := by have := Hs.out; omega
  have HV2 := Lib.hid hV2; clear hV2
  obtain ⟨d0, d1, -⟩ := cells2 hd2
  clear hd2 hA hnA hNB hb1 hk1 hb2 HB2 Hs
  go_wp2
  clear d0 d1
  go_loopw [12] (fun i wr => ∃ (k : Nat) (L : List T) (v : Value), i = .int .i64 k ∧ k ≤ N.length ∧ N.take k = cN (nodes L) ∧ L.length = k ∧ VI w b kb p cap N r L v wr) (fun i _ => N.length - (intOf i).toNat)
  case atStart => exact ⟨0, [], _, rfl, by omega, rfl, rfl, HV2.out⟩
  clear HV2
  case round =>
    obtain ⟨k, L, v, rfl, hk, htk, hlen, hV⟩ := hrel
    have hni := Hni0.out.below hV.below
    obtain ⟨d0, d1, -⟩ := cells2 hV.dv
    have hdl := heap_lt hV.dv
    by_cases hlt : k < N.length
    · obtain ⟨ab, off, rfl, hab, x0, x1, x2⟩ := hni k hlt
      have hget : N[k]? = some N[k] := List.getElem?_eq_getElem hlt
      have hlit := fun (q : Nat) (hq : q < L.length + 2) => litR_tr (N := N) hV.wf (by rw [hlen]; exact htk) hq
      have hGood : Good N r → (0 ≤ (N[k]).1 ∧ (N[k]).1 < 12) ∧ (0 ≤ (N[k]).2.1 ∧ (N[k]).2.1 < (k : Int) + 2) ∧ (0 ≤ (N[k]).2.2 ∧ (N[k]).2.2 < (k : Int) + 2) ∧ ¬ (N[k]).2.1 = (N[k]).2.2 ∧ (N[k]).1 < litR N (N[k]).2.1 ∧ (N[k]).1 < litR N (N[k]).2.2 := fun hg => by
        obtain ⟨l, h, j, h1, h2, h3⟩ := hg.at hV.wf hlt htk
        rw [hget, Option.some.injEq] at h1
        rw [h1]
        have e1 := hlit _ h3.hh
        have e2 := hlit _ h3.hk
        have f1 := h3.hh
        have f2 := h3.hk
        have f3 := h3.ne
        have f4 := h3.lh
        have f5 := h3.lk
        have f6 : (tr L h).lit ≤ 12 := by
          have hi := (tr_inn hV.wf h3.hh).1
          cases hx : tr L h with
          | c b => exact Nat.le_refl _
          | n a b c => rw [hx] at hi; exact lit_le (hV.wf.ok _ hi)
        dsimp only
        rw [e1, e2]
        exact ⟨⟨by omega, by omega⟩, ⟨by omega, by omega⟩, ⟨by omega, by omega⟩, by omega, by omega, by omega⟩
      have hNew : Good N r → ∀ l h j : Nat, N[k] = ((l : Int), (h : Int), (j : Int)) → (l, h, j) ∉ nodes L := fun hg l h j e => by
        obtain ⟨l', h', j', h1, h2, h3⟩ := hg.at hV.wf hlt htk
        rw [hget, Option.some.injEq, e] at h1
        simp only [Prod.mk.injEq] at h1
        obtain ⟨a1, a2, a3⟩ := h1
        rw [show l = l' by omega, show h = h' by omega, show j = j' by omega]
        exact h3.new
      have htk1 : N.take (k + 1) = cN (nodes L) ++ [N[k]] := by rw [List.take_succ_eq_append_getElem hlt, htk]
      have hni' := hni
      clear hget hni
      generalize N[k] = x at *
      obtain ⟨a, bb, cc⟩ := x
      dsimp only at x0 x1 x2 hGood
      have hI := fun w => islit_any a w
      have hLb := fun wx (h : NI wx (some ⟨ab, off, none⟩) N) (hq : bb < (N.length : Int) + 2) => litof_any (some ⟨ab, off, none⟩) cap N bb wx h hq (by omega)
      have hLc := fun wx (h : NI wx (some ⟨ab, off, none⟩) N) (hq : cc < (N.length : Int) + 2) => litof_any (some ⟨ab, off, none⟩) cap N cc wx h hq (by omega)
      have hal : Below wr.heap.size wr (wr.alloc (.cells #[.int .i64 a, .int .i64 bb, .int .i64 cc] 32)) := (Below.refl _ _).alloc (Nat.le_refl _) _
      have hnew := heap_alloc_new wr (.cells #[.int .i64 a, .int .i64 bb, .int .i64 cc] 32)
      have Hni := Lib.hid (hni'.below hal)
      have HBa := Lib.hid (hV.bd.below hal)
      have hda := (hal.block _ hdl).trans hV.dv
      have Hba := Lib.hid (hV.below.step hal)
      have HV := Lib.hid hV; clear hV
      have HGood := Lib.hid hGood; clear hGood
      have HNew := Lib.hid hNew; clear hNew
      have Htk := Lib.hid htk1; clear htk1 htk
      have Hlen := Lib.hid hlen; clear hlen
      have Hlit := Lib.hid hlit; clear hlit
      clear hni'
      go_upto_region 6 with fail
      generalize wr.alloc (.cells #[.int .i64 a, .int .i64 bb, .int .i64 cc] 32) = wa at *
      clear d0 d1 x0 x1 x2 hal
      obtain ⟨d0, d1, -⟩ := cells2 hda
      obtain ⟨y0, y1, y2⟩ := cellsT hnew
      have z0 := Lib.hid (show wa.drew.cell? ⟨w.heap.size, 0, none⟩ = _ from d0)
      have z1 := Lib.hid (show wa.drew.cell? ⟨wr.heap.size, 0, none⟩ = _ from y0)
      have z2 := Lib.hid (show wa.drew.cell? ⟨wr.heap.size, 1, none⟩ = _ from y1)
      have z3 := Lib.hid (show wa.drew.cell? ⟨wr.heap.size, 2, none⟩ = _ from y2)
      have Hda := Lib.hid hda; clear hda
      obtain ⟨lb, hlb⟩ : ∃ x, x = litR N bb := ⟨_, rfl⟩
      obtain ⟨lc, hlc⟩ : ∃ x, x = litR N cc := ⟨_, rfl⟩
      rw [← hlb, ← hlc] at HGood
      rw [← hlb] at hLb
      rw [← hlc] at hLc
      have Hlb := Lib.hid hlb; clear hlb
      have Hlc := Lib.hid hlc; clear hlc
      by_cases g1 : 0 ≤ a ∧ a < 12
      case neg =>
        have e1 : (decide (0 ≤ a) && decide (a < 12)) = false := by simp; omega
        simp only [e1] at hI
        go_wp2_with (first
          | (go_at_call 30; refine (hI _).mono ?_; rintro e u ⟨rfl, hu⟩; subst hu))
        go_ret
        exact VR.no (fun hg => absurd (HGood.out hg) (by omega)) Hba.out
      have e1 : (decide (0 ≤ a) && decide (a < 12)) = true := by simp; omega
      simp only [e1] at hI
      clear e1
      by_cases g2 : 0 ≤ bb
      case neg =>
        have fg2 : decide (bb < 0) = true := by simp; omega
        go_wp2_with (first
          | (go_at_call 30; refine (hI _).mono ?_; rintro e u ⟨rfl, hu⟩; subst hu))
        go_ret
        exact VR.no (fun hg => absurd (HGood.out hg) (by omega)) Hba.out
      have fg2 : decide (bb < 0) = false := by simp; omega
      by_cases g3 : bb < (k : Int) + 2
      case neg =>
        have fg3 : decide ((k : Int) + 2 ≤ bb) = true := by simp; omega
        go_wp2_with (first
          | (go_at_call 30; refine (hI _).mono ?_; rintro e u ⟨rfl, hu⟩; subst hu))
        go_ret
        exact VR.no (fun hg => absurd (HGood.out hg) (by omega)) Hba.out
      have fg3 : decide ((k : Int) + 2 ≤ bb) = false := by simp; omega
      by_cases g4 : 0 ≤ cc
      case neg =>
        have fg4 : decide (cc < 0) = true := by simp; omega
        go_wp2_with (first
          | (go_at_call 30; refine (hI _).mono ?_; rintro e u ⟨rfl, hu⟩; subst hu))
        go_ret
        exact VR.no (fun hg => absurd (HGood.out hg) (by omega)) Hba.out
      have fg4 : decide (cc < 0) = false := by simp; omega
      by_cases g5 : cc < (k : Int) + 2
      case neg =>
        have fg5 : decide ((k : Int) + 2 ≤ cc) = true := by simp; omega
        go_wp2_with (first
          | (go_at_call 30; refine (hI _).mono ?_; rintro e u ⟨rfl, hu⟩; subst hu))
        go_ret
        exact VR.no (fun hg => absurd (HGood.out hg) (by omega)) Hba.out
      have fg5 : decide ((k : Int) + 2 ≤ cc) = false := by simp; omega
      by_cases g6 : bb = cc
      case pos =>
        have e6 : (bb == cc) = true := by simp [g6]
        go_wp2_with (first
          | (go_at_call 30; refine (hI _).mono ?_; rintro e u ⟨rfl, hu⟩; subst hu))
        go_ret
        exact VR.no (fun hg => absurd (HGood.out hg) (by omega)) Hba.out
      have e6 : (bb == cc) = false := by simp [g6]
      go_upto_region 8 with (go_at_call 30; refine (hI _).mono ?_; rintro e u ⟨rfl, hu⟩; subst hu)
      clear hI fg2 fg3 fg4 fg5 e6
      have hLb' := fun n => Calls.quiet_of_same ((hLb (wa.drewN n) (Hni.out.drewN n) (by omega)).mono fun e u (h : _ ∧ _) => ⟨h.1, h.2.symm⟩)
      have hLc' := fun n => Calls.quiet_of_same ((hLc (wa.drewN n) (Hni.out.drewN n) (by omega)).mono fun e u (h : _ ∧ _) => ⟨h.1, h.2.symm⟩)
      by_cases g7 : a < lb
      case neg =>
        have fg7 : decide (lb ≤ a) = true := by simp; omega
        go_quiet ((go_at_call 31; first | (with_reducible exact hLb' _) | (with_reducible exact hLc' _)))
        go_wp2
        go_ret
        exact VR.no (fun hg => absurd (HGood.out hg) (by omega)) (below_drewN Hba.out _)
      have fg7 : decide (lb ≤ a) = false := by simp; omega
      by_cases g8 : a < lc
      case neg =>
        have fg8 : decide (lc ≤ a) = true := by simp; omega
        go_quiet ((go_at_call 31; first | (with_reducible exact hLb' _) | (with_reducible exact hLc' _)))
        go_wp2
        go_ret
        exact VR.no (fun hg => absurd (HGood.out hg) (by omega)) (below_drewN Hba.out _)
      have fg8 : decide (lc ≤ a) = false := by simp; omega
      go_quiet ((go_at_call 31; first | (with_reducible exact hLb' _) | (with_reducible exact hLc' _)))
      clear hLb hLc hLb' hLc' fg7 fg8
      go_upto_region 10 with fail
      obtain ⟨l, rfl⟩ : ∃ l : Nat, a = (l : Int) := ⟨a.toNat, by omega⟩
      obtain ⟨h, rfl⟩ : ∃ h : Nat, bb = (h : Int) := ⟨bb.toNat, by omega⟩
      obtain ⟨j, rfl⟩ : ∃ j : Nat, cc = (j : Int) := ⟨cc.toNat, by omega⟩
      have hlL : h < L.length + 2 := by have := Hlen.out; omega
      have hjL : j < L.length + 2 := by have := Hlen.out; omega
      have hll : (lb : Int) = ((tr L h).lit : Int) := Hlb.out.trans (Hlit.out h hlL)
      have hlc : (lc : Int) = ((tr L j).lit : Int) := Hlc.out.trans (Hlit.out j hjL)
      have HBq := Lib.hid (HBa.out.at (w' := wa.drewN nq) rfl rfl fun _ _ => rfl)
      have Hbq := Lib.hid (below_drewN Hba.out nq)
      have hnl : (nodes L).length = k := (nodes_length L).trans Hlen.out
      have hnode := node_any w.heap.size b kb v (nodes L) l h j (wa.drewN nq) HBq.out Hbq.out.size (by omega) (by omega) (by omega) (by omega)
      have Hdq := Lib.hid (show (wa.drewN nq).heap[w.heap.size]? = _ from Hda.out)
      have hnq : (wa.drewN nq).heap[wr.heap.size]? = some (.cells #[.int .i64 l, .int .i64 h, .int .i64 j] 32) := hnew
      clear y0 y1 y2 d0 d1 z0 z1 z2 z3
      obtain ⟨y0, y1, y2⟩ := cellsT hnq
      clear hnew hnq
      generalize wa.drewN nq = wq at *
      clear HBa Hba Hda Hni
      by_cases hm : (l, h, j) ∈ nodes L
      · have e1 : nodeR (nodes L) l h j = (nodes L).idxOf (l, h, j) + 2 := by simp [nodeR, hm, show ¬ h = j by omega]
        have e2 := List.idxOf_lt_length_of_mem hm
        rw [e1] at hnode
        have hng : ¬ Good N r := fun hg => HNew.out hg l h j rfl hm
        generalize (nodes L).idxOf (l, h, j) = q at *
        have fq : (((q + 2 : Nat) : Int) == (k : Int) + 2) = false := by simp; omega
        have fq' : (((q + 2 : Nat) : Int) != (k : Int) + 2) = true := by simp; omega
        have fq2 : ((q : Int) == (k : Int)) = false := by simp; omega
        have Hng := Lib.hid hng; clear hng
        clear hm e1 e2 hll hlc
        go_wp2_with (go_at_call 32; refine hnode.mono ?_; rintro e w5 ⟨v5, rfl, hB5, hf5⟩; have HB5 := Lib.hid hB5; have Hf5 := Lib.hid hf5; clear hB5 hf5)
        go_ret
        exact VR.no Hng.out (Hbq.out.trans (Hf5.out.below Hbq.out.size (by simp; omega) (fun g hg => (HBq.out.own.lt g hg).1)))
      · have e1 : nodeR (nodes L) l h j = k + 2 := by simp [nodeR, hm, show ¬ h = j by omega, hnl]
        have e2 : nodeN (nodes L) l h j = nodes L ++ [(l, h, j)] := by simp [nodeN, hm, show ¬ h = j by omega]
        rw [e1, e2] at hnode
        have hfit : Fit1 L l h j := ⟨hlL, hjL, by omega, by omega, by omega, hm⟩
        obtain ⟨hw5, hn5⟩ := hfit.snoc HV.out.wf
        have Hw5 := Lib.hid hw5; have Hn5 := Lib.hid hn5; clear hw5 hn5 hfit
        have fq : (((k + 2 : Nat) : Int) == (k : Int) + 2) = true := by simp
        have fq' : (((k + 2 : Nat) : Int) != (k : Int) + 2) = false := by simp
        clear hm e1 e2 hll hlc hnl
        have Hc := Lib.hid (show cN (nodes L) ++ [((l : Int), (h : Int), (j : Int))] = cN (nodes L ++ [(l, h, j)]) by simp [cN, castT])
        go_wp2_with (go_at_call 32; refine hnode.mono ?_; rintro e w5 ⟨v5, rfl, hB5, hf5⟩; have HB5 := Lib.hid hB5; have Hf5 := Lib.hid hf5; clear hB5 hf5)
        refine ⟨⟨k + 1, L ++ [.n l (tr L h) (tr L j)], v5, by go_num, by omega, ?_, by simp [Hlen.out], ⟨Hw5.out, ?_, ?_, ?_⟩⟩, by simp [intOf]; omega⟩
        · rw [Htk.out, Hn5.out, Hc.out]
        · rw [Hn5.out]; exact HB5.out
        · exact HBq.out.fr Hf5.out Hdq.out (by decide) (by decide)
        · exact Hbq.out.trans (Hf5.out.below Hbq.out.size (by simp; omega) (fun g hg => (HBq.out.own.lt g hg).1))
    · obtain rfl : k = N.length := by omega
      have hNL : N = cN (nodes L) := by rw [List.take_length] at htk; exact htk
      have HNL := Lib.hid hNL; clear hNL htk
      have Hlen := Lib.hid hlen; clear hlen
      have HV := Lib.hid hV; clear hV
      have Hni := Lib.hid hni; clear hni
      by_cases r1 : 0 ≤ r
      case neg =>
        have f1 : decide (r < 0) = true := by simp; omega
        have Hng := Lib.hid (show ¬ Good N r from fun hg => by have := hg.root; omega)
        go_wp2
        go_ret
        exact VR.no Hng.out HV.out.below
      have f1 : decide (r < 0) = false := by simp; omega
      by_cases r2 : r < N.length + 2
      case neg =>
        have f2 : decide ((N.length : Int) + 2 ≤ r) = true := by simp; omega
        have Hng := Lib.hid (show ¬ Good N r from fun hg => by have := hg.root; omega)
        go_wp2
        go_ret
        exact VR.no Hng.out HV.out.below
      have f2 : decide ((N.length : Int) + 2 ≤ r) = false := by simp; omega
      go_upto_region 15 with fail
      clear f1 f2
      obtain ⟨rn, rfl⟩ : ∃ n : Nat, r = (n : Int) := ⟨r.toNat, by omega⟩
      have hrl : rn < L.length + 2 := by have := Hlen.out; omega
      obtain ⟨ti, tr2⟩ := tr_inn HV.out.wf hrl
      have tok : (tr L rn).Ok := by
        cases hx : tr L rn with
        | c b => trivial
        | n a b c => rw [hx] at ti; exact HV.out.wf.ok _ ti
      have hfin := finish_any w.heap.size b kb v L (tr L rn) wr HV.out.bd HV.out.wf (by have := Hlen.out; omega) ti tok
      rw [tr2] at hfin
      have hiff : Good N rn → canonN (tr L rn) = nodes L ∧ canonR (tr L rn) = rn := fun hg => hg.tree HV.out.wf HNL.out
      generalize tr L rn = t at *
      have Hiff := Lib.hid hiff; clear hiff
      have Htok := Lib.hid tok; clear tok ti tr2
      go_upto_region 16 with (go_at_call 33; refine hfin.mono ?_; rintro e w6 ⟨dv, rfl, hdv, hb6⟩; have Hdv := Lib.hid hdv; clear hdv; obtain ⟨p6, c6, rfl, hns6⟩ := Hdv.out.dd.ex)
      have hal := (Below.refl w6.heap.size w6).alloc (Nat.le_refl _) (.cells #[.slice p6 (canonN t).length c6, .int .i64 (canonR t)] 24)
      have hdz := ((hb6.step hal).block _ hdl).trans HV.out.dv
      have hcz := heap_alloc_new w6 (.cells #[.slice p6 (canonN t).length c6, .int .i64 (canonR t)] 24)
      have heq := equal_any p6 p c6 cap (cN (canonN t)) N _ (hns6.ni.below hal) (Hni.out.below (hb6.step hal)) (by rw [cN_length]; have := canon_len Htok.out; omega) (by omega)
      rw [cN_length] at heq
      have Hbz := Lib.hid (HV.out.below.step (hb6.step hal))
      have hgood : canonR t = rn → cN (canonN t) = N → Good N rn := fun h1 h2 => ⟨t, Htok.out, h2, by rw [h1]⟩
      have hbad : Good N rn → canonR t = rn ∧ cN (canonN t) = N := fun hg => ⟨(Hiff.out hg).2, by rw [(Hiff.out hg).1]; exact HNL.out.symm⟩
      have Hgood := Lib.hid hgood; have Hbad := Lib.hid hbad; clear hgood hbad
      generalize w6.alloc (.cells #[.slice p6 (canonN t).length c6, .int .i64 (canonR t)] 24) = wz at *
      clear hal Hdv Hiff Htok hns6 hfin hb6
      obtain ⟨d0, d1, -⟩ := cells2 hdz
      obtain ⟨c0, c1, -⟩ := cells2 hcz
      clear hdz hcz
      generalize canonR t = cr at *
      generalize (canonN t).length = cl at *
      by_cases he : cr = rn
      case neg =>
        have f3 : ((cr : Int) == rn) = false := by simp; omega
        have f4 : (cr == rn) = false := by simp; omega
        have Hng := Lib.hid (show ¬ Good N rn from fun hg => he (Hbad.out hg).1)
        clear he
        go_wp2
        go_ret
        exact VR.no Hng.out Hbz.out
      subst he
      by_cases hN2 : cN (canonN t) = N
      · have hd : decide (cN (canonN t) = N) = true := by simp [hN2]
        rw [hd] at heq
        have Hg := Lib.hid (Hgood.out rfl hN2)
        clear hd hN2
        go_wp2_with (go_at_call 34; refine heq.mono ?_; rintro e w8 ⟨rfl, hb8⟩; have Hb8 := Lib.hid hb8; clear hb8)
        go_ret
        exact VR.yes Hg.out (Hbz.out.step Hb8.out)
      · have hd : decide (cN (canonN t) = N) = false := by simp [hN2]
        rw [hd] at heq
        have Hng := Lib.hid (show ¬ Good N cr from fun hg => hN2 (Hbad.out hg).2)
        clear hd hN2
        go_wp2_with (go_at_call 34; refine heq.mono ?_; rintro e w8 ⟨rfl, hb8⟩; have Hb8 := Lib.hid hb8; clear hb8)
        go_ret
        exact VR.no Hng.out (Hbz.out.step Hb8.out)
end Go.Proofs.Ytkppcibffbnhoaa
