/-
  Walks: the reference's reduce.
-/
import Derived.Test.YtkppcibffbnhoaaF3
namespace Go.Proofs.Ytkppcibffbnhoaa
open Go.RowKit
set_option maxRecDepth 100000

theorem vis_inn {L : List T} : ∀ {t : T}, inn L t → vis t L = L := fun h => vis_known h
theorem vis_mk {L : List T} {n : Nat} {H K : T} (w : Wf L) (oH : H.Ok) (oK : K.Ok) : vis (mk n H K) L = nodeL (vis K (vis H L)) n H K := by
  obtain ⟨w1, ⟨M1, e1⟩, i1⟩ := vis_spec (t := H) w oH
  unfold mk nodeL
  by_cases e : H = K
  · subst e
    rw [if_pos rfl, if_pos rfl, vis_known i1]
  · rw [if_neg e, if_neg e]
    simp only [vis]
    by_cases hm : T.n n H K ∈ L
    · obtain ⟨h1, h2⟩ := w.kids hm
      rw [if_pos hm, vis_known h1, vis_known h2, if_pos hm]
    · have hn : T.n n H K ∉ vis K (vis H L) := fun hx => by
        rcases vis_new hx with h2 | h2
        · rcases vis_new h2 with h3 | h3
          · exact hm h3
          · simp only [T.sz] at h3; omega
        · simp only [T.sz] at h2; omega
      rw [if_neg hm, if_neg hn]
theorem tb_sz (f : Nat → Bool) : ∀ (j m : Nat), (tb f j m).sz + 1 ≤ 2 ^ j
  | 0, m => by simp [tb, T.sz]
  | j + 1, m => by
    have h1 := tb_sz f j (m + 2 ^ (11 - j))
    have h2 := tb_sz f j m
    simp only [tb, mk]
    rw [Nat.pow_succ]
    split
    · omega
    · simp only [T.sz]; omega

theorem or_eq (l m : Nat) (hl : l < 12) (hm : m < 2 ^ l) : bits .or .i64 (m : Int) (wrap64 (2 ^ l)) = ((m + 2 ^ l : Nat) : Int) := by
  have hp : 2 ^ l ≤ 2 ^ 11 := Nat.pow_le_pow_right (by omega) (by omega)
  have hw : wrap64 ((2 : Int) ^ l) = ((2 ^ l : Nat) : Int) := by
    have e : ((2 : Int) ^ l) = ((2 ^ l : Nat) : Int) := by simp
    rw [e]
    unfold wrap64
    generalize (2 ^ l : Nat) = q at *
    omega
  rw [hw]
  have ho : m ||| 2 ^ l = m + 2 ^ l := by
    have := Nat.two_pow_add_eq_or_of_lt hm 1
    rw [Nat.mul_one] at this
    rw [Nat.or_comm, ← this, Nat.add_comm]
  rw [← ho]
  have hlt : m ||| 2 ^ l < 2 ^ 12 := by rw [ho]; omega
  generalize (2 ^ l : Nat) = q at *
  have h1 : (BitVec.ofInt 64 (m : Int)).toNat = m := by
    rw [BitVec.ofInt_natCast, BitVec.toNat_ofNat]; exact Nat.mod_eq_of_lt (by omega)
  have h2 : (BitVec.ofInt 64 (q : Int)).toNat = q := by
    rw [BitVec.ofInt_natCast, BitVec.toNat_ofNat]; exact Nat.mod_eq_of_lt (by omega)
  show IntKind.i64.wrap ((BitVec.ofInt 64 (m : Int) ||| BitVec.ofInt 64 (q : Int)).toNat : Int) = _
  rw [BitVec.toNat_or, h1, h2]
  simp [IntKind.wrap, IntKind.bits, IntKind.signed]
  omega
/-- A table of truth values. -/
structure TB (w : World) (b : Nat) (f : Nat → Bool) : Prop where
  ex : ∃ tc : Array Value, w.heap[b]? = some (.cells tc 4) ∧ ∀ m, m < 4096 → tc[m]? = some (.bool (f m))
theorem TB.cell {w : World} {b : Nat} {f : Nat → Bool} (h : TB w b f) {m : Nat} (hm : m < 4096) : w.cell? ⟨b, m, none⟩ = some (.bool (f m)) := by
  obtain ⟨tc, h1, h2⟩ := h.ex
  simp [World.cell?, h1, h2 m hm]
theorem TB.at {w w' : World} {b : Nat} {f : Nat → Bool} (h : TB w b f) (e : w'.heap[b]? = w.heap[b]?) : TB w' b f := by
  obtain ⟨tc, h1, h2⟩ := h.ex
  exact ⟨tc, e.trans h1, h2⟩
/-- A reduction that goes on. -/
structure RI (Z d bt : Nat) (f : Nat → Bool) (L : List T) (v : Value) (w : World) : Prop where
  blk : w.heap[d]? = some (.cells #[v, .int .i64 0] 24)
  own : w.ownsRow Z 32 3 v (nodes L).length (triCells (nodes L))
  tb : TB w bt f
  wf : Wf L
  zd : Z ≤ d
  zw : Z ≤ w.heap.size
theorem RI.below {Z d bt : Nat} {f : Nat → Bool} {L : List T} {v : Value} {w w' : World} (h : RI Z d bt f L v w) (hb : Below w.heap.size w w') : RI Z d bt f L v w' := by
  obtain ⟨tc, h1, h2⟩ := h.tb.ex
  exact ⟨(hb.block _ (heap_lt h.blk)).trans h.blk, ownsRow_below h.own hb (Nat.le_refl _), h.tb.at (hb.block _ (heap_lt h1)), h.wf, h.zd, Nat.le_trans h.zw hb.size⟩
theorem RI.step {Z d bt : Nat} {f : Nat → Bool} {L L' : List T} {v v' : Value} {w w' : World} (h : RI Z d bt f L v w) (hf : Fr [d] v v' w w') (hb : w'.heap[d]? = some (.cells #[v', .int .i64 0] 24)) (ho : w'.ownsRow Z 32 3 v' (nodes L').length (triCells (nodes L'))) (hw : Wf L') : RI Z d bt f L' v' w' := by
  obtain ⟨tc, h1, h2⟩ := h.tb.ex
  refine ⟨hb, ho, h.tb.at (hf.block _ (heap_lt h1) ?_ (own_ne h.own h1 (by decide))), hw, h.zd, Nat.le_trans h.zw hf.size⟩
  simp only [List.mem_cons, List.not_mem_nil, or_false]
  exact ne_of h1 h.blk (by simp)

theorem idxOf_first : ∀ (N : List Tri) (x : Tri) (k : Nat) (hk : k < N.length), N[k] = x → (∀ i (hi : i < N.length), i < k → N[i] ≠ x) → N.idxOf x = k
  | y :: N, x, 0, _, h, _ => by simp at h; subst h; simp
  | y :: N, x, k + 1, hk, h, hn => by
    have h0 : y ≠ x := hn 0 (by simp) (by omega)
    have h1 := idxOf_first N x k (by simpa using hk) (by simpa using h) fun i hi hik => by have := hn (i + 1) (by simpa using hi) (by omega); simpa using this
    have hb : (y == x) = false := by simpa using h0
    rw [List.idxOf_cons, hb, h1]; rfl
/-- What a reduction answers. -/
structure RR (Z d bt : Nat) (f : Nat → Bool) (t : T) (L : List T) (v : Value) (w : World) (e : Ending) (w' : World) : Prop where
  ex : ∃ v', e = .returned (.int .i64 (ref (vis t L) t)) ∧ RI Z d bt f (vis t L) v' w' ∧ Fr [d] v v' w w'

set_option maxHeartbeats 4000000 in
theorem reduce_leaf (Z d bt : Nat) (f : Nat → Bool) (m : Nat) (hm : m < 4096) (L : List T) (v : Value) (w : World) (h : RI Z d bt f L v w) :
    Calls Try.prog 53 #[.pointer (some ⟨d, 0, none⟩), .slice (some ⟨bt, 0, none⟩) 4096 4096, .int .i64 12, .int .i64 m] w (RR Z d bt f (.c (f m)) L v w) := by
  have hc := h.tb.cell hm
  cases hf : f m with
  | true =>
    rw [hf] at hc
    have H : RR Z d bt f (.c true) L v w (.returned (.int .i64 1)) w := ⟨v, rfl, h, Fr.refl _ _ _⟩
    have HH := Lib.hid H
    clear H h hf
    go_enter Try.func53, Try.ntmps53
    go_wp2
    go_ret
    exact HH.out
  | false =>
    rw [hf] at hc
    have H : RR Z d bt f (.c false) L v w (.returned (.int .i64 0)) w := ⟨v, rfl, h, Fr.refl _ _ _⟩
    have HH := Lib.hid H
    clear H h hf
    go_enter Try.func53, Try.ntmps53
    go_wp2
    go_ret
    exact HH.out

set_option maxHeartbeats 8000000 in
theorem reduce_step (Z d bt : Nat) (f : Nat → Bool) (l m : Nat) (hl : l < 12) (hm : m < 2 ^ l) (H K : T) (L : List T) (v : Value) (w : World) (h : RI Z d bt f L v w) (oH : H.Ok) (oK : K.Ok) (lH : l < H.lit) (lK : l < K.lit) (hlen : (vis K (vis H L)).length ≤ 8192)
    (ih : Calls Try.prog 53 #[.pointer (some ⟨d, 0, none⟩), .slice (some ⟨bt, 0, none⟩) 4096 4096, .int .i64 ((l : Int) + 1), .int .i64 ((m + 2 ^ l : Nat) : Int)] w (RR Z d bt f H L v w))
    (ik : ∀ v w, RI Z d bt f (vis H L) v w → Calls Try.prog 53 #[.pointer (some ⟨d, 0, none⟩), .slice (some ⟨bt, 0, none⟩) 4096 4096, .int .i64 ((l : Int) + 1), .int .i64 m] w (RR Z d bt f K (vis H L) v w)) :
    Calls Try.prog 53 #[.pointer (some ⟨d, 0, none⟩), .slice (some ⟨bt, 0, none⟩) 4096 4096, .int .i64 l, .int .i64 m] w (RR Z d bt f (mk l H K) L v w) := by
  have fl : ((l : Int) == 12) = false := by simp; omega
  have fl2 : (l == 12) = false := by simp; omega
  rw [← or_eq l m hl hm] at ih
  obtain ⟨wf1, -, i1⟩ := vis_spec (t := H) h.wf oH
  obtain ⟨wf2, ⟨E2, e2⟩, i2⟩ := vis_spec (t := K) wf1 oK
  have i12 : inn (vis K (vis H L)) H := by rw [e2]; exact inn_app i1
  have r12 : ref (vis H L) H = ref (vis K (vis H L)) H := by rw [e2]; exact (ref_app i1).symm
  have hvm := vis_mk (n := l) (H := H) (K := K) h.wf oH oK
  obtain ⟨en, er⟩ := nodeL_nodes (n := l) wf2 i12 i2
  obtain ⟨wf3, i3⟩ := nodeL_wf wf2 oH oK lH lK i12 i2
  have q1 := ref_lt i12
  have q2 := ref_lt i2
  have hll := nodes_length (vis K (vis H L))
  have hfin : ∀ v' w', RI Z d bt f (nodeL (vis K (vis H L)) l H K) v' w' → Fr [d] v v' w w' → RR Z d bt f (mk l H K) L v w (.returned (.int .i64 (nodeR (nodes (vis K (vis H L))) l (ref (vis K (vis H L)) H) (ref (vis K (vis H L)) K)))) w' := fun v' w' h1 h2 => ⟨v', by rw [hvm, er], by rw [hvm]; exact h1, h2⟩
  have hstep : ∀ v2 v' w2 w', RI Z d bt f (vis K (vis H L)) v2 w2 → Fr [d] v2 v' w2 w' → w'.heap[d]? = some (.cells #[v', .int .i64 0] 24) → w'.ownsRow Z 32 3 v' (nodeN (nodes (vis K (vis H L))) l (ref (vis K (vis H L)) H) (ref (vis K (vis H L)) K)).length (triCells (nodeN (nodes (vis K (vis H L))) l (ref (vis K (vis H L)) H) (ref (vis K (vis H L)) K))) → RI Z d bt f (nodeL (vis K (vis H L)) l H K) v' w' := fun v2 v' w2 w' h1 h2 h3 h4 => h1.step h2 h3 (by rw [en] at h4; exact h4) wf3
  have ih' : Calls Try.prog 53 #[.pointer (some ⟨d, 0, none⟩), .slice (some ⟨bt, 0, none⟩) 4096 4096, .int .i64 ((l : Int) + 1), .int .i64 (bits .or .i64 (m : Int) (wrap64 (2 ^ l)))] w fun e w1 => ∃ v1, e = .returned (.int .i64 (ref (vis K (vis H L)) H)) ∧ RI Z d bt f (vis H L) v1 w1 ∧ Fr [d] v v1 w w1 :=
    ih.mono fun e w1 hr => by obtain ⟨v1, rfl, h1, h2⟩ := hr.ex; exact ⟨v1, by rw [r12], h1, h2⟩
  have ik' : ∀ v1 w1, RI Z d bt f (vis H L) v1 w1 → Calls Try.prog 53 #[.pointer (some ⟨d, 0, none⟩), .slice (some ⟨bt, 0, none⟩) 4096 4096, .int .i64 ((l : Int) + 1), .int .i64 m] w1 fun e w2 => ∃ v2, e = .returned (.int .i64 (ref (vis K (vis H L)) K)) ∧ RI Z d bt f (vis K (vis H L)) v2 w2 ∧ Fr [d] v1 v2 w1 w2 :=
    fun v1 w1 h1 => (ik v1 w1 h1).mono fun e w2 hr => by obtain ⟨v2, rfl, h1, h2⟩ := hr.ex; exact ⟨v2, rfl, h1, h2⟩
  have Hfin := Lib.hid hfin
  have Hstep := Lib.hid hstep
  clear hfin hvm er en wf3 i3 oH oK lH lK e2 E2 wf1 i1 i12 i2 r12 ih ik hstep wf2
  generalize hL1 : vis H L = L1 at *
  generalize vis K L1 = L2 at *
  generalize ref L2 H = rH at *
  generalize ref L2 K = rK at *
  clear hL1
  have hnl : (nodes L2).length ≤ 8192 := by omega
  clear hll
  have H0 := Lib.hid h; clear h
  go_enter Try.func53, Try.ntmps53
  go_upto_region 6 with (go_at_call 53; refine ih'.mono ?_; rintro e w1 ⟨v1, rfl, hI1, hf1⟩; have HI1 := Lib.hid hI1; have Hf1 := Lib.hid hf1; clear hI1 hf1)
  go_upto_region 7 with (go_at_call 53; refine (ik' _ _ HI1.out).mono ?_; rintro e w2 ⟨v2, rfl, hI2, hf2⟩; have HI2 := Lib.hid hI2; have Hf2 := Lib.hid (Hf1.out.trans hf2); clear hI2 hf2)
  clear ih' ik' HI1 Hf1 H0
  by_cases hrr : rH = rK
  · subst hrr
    have e1 : nodeR (nodes L2) l rH rH = rH := by simp [nodeR]
    have e2 : nodeN (nodes L2) l rH rH = nodes L2 := by simp [nodeN]
    rw [e1] at Hfin
    rw [e2] at Hstep
    clear e1 e2
    go_wp2
    go_ret
    exact Hfin.out _ _ (Hstep.out _ _ _ _ HI2.out (Fr.refl _ _ _) HI2.out.blk HI2.out.own) Hf2.out
  have fr : ((rH : Int) == rK) = false := by simp; omega
  have fr2 : (rH == rK) = false := by simp; omega
  go_upto_region 10 with fail
  have hal := (Below.refl w2.heap.size w2).alloc (Nat.le_refl _) (.cells #[.int .i64 l, .int .i64 rH, .int .i64 rK] 32)
  have hnx := heap_alloc_new w2 (.cells #[.int .i64 l, .int .i64 rH, .int .i64 rK] 32)
  have HIx := Lib.hid (HI2.out.below hal)
  have Hfx := Lib.hid (Hf2.out.trans (Fr.of_below hal))
  have hob : v2.ownBlock ≠ some w2.heap.size := fun e => by have := (HI2.out.own.lt _ e).2; omega
  have hdx : d ≠ w2.heap.size := by have := heap_lt HI2.out.blk; omega
  generalize w2.alloc (.cells #[.int .i64 l, .int .i64 rH, .int .i64 rK] 32) = wx at *
  obtain ⟨p2, c2, rfl⟩ := own_slice HIx.out.own
  have Hnx := Lib.hid hnx; clear hnx hal fr fr2
  go_wp2
  go_loopw [12] (fun i wr => ∃ k : Nat, i = .int .i64 k ∧ k ≤ (nodes L2).length ∧ (∀ i (hi : i < (nodes L2).length), i < k → (nodes L2)[i] ≠ (l, rH, rK)) ∧ Below wx.heap.size wx wr) (fun i _ => (nodes L2).length - (intOf i).toNat)
  case atStart => exact ⟨0, rfl, by omega, fun i hi h0 => by omega, Below.refl _ _⟩
  case round =>
    obtain ⟨k, rfl, hk, hno, hbx⟩ := hrel
    have Hno := Lib.hid hno; clear hno
    have HIq := Lib.hid (HIx.out.below hbx)
    have hnq := (hbx.block _ (heap_lt Hnx.out)).trans Hnx.out
    have Hfq := Lib.hid (Hfx.out.trans (Fr.of_below hbx))
    have Hbx := Lib.hid hbx; clear hbx
    obtain ⟨n0, n1, n2⟩ := cellsT hnq
    obtain ⟨d0, -, dz⟩ := cells2 HIq.out.blk
    have Hnq := Lib.hid hnq; clear hnq
    by_cases hlt : k < (nodes L2).length
    · obtain ⟨g, rfl⟩ := own_ptr HIq.out.own (by omega)
      obtain ⟨x0, x1, x2⟩ := ownsTri_cells HIq.out.own hlt
      have hnx : (nodes L2)[k] ≠ (l, rH, rK) → ∀ i (hi : i < (nodes L2).length), i < k + 1 → (nodes L2)[i] ≠ (l, rH, rK) := fun h i hi hik => by
        rcases Nat.lt_succ_iff_lt_or_eq.1 hik with h1 | rfl
        · exact Hno.out i hi h1
        · exact h
      have hfd : (nodes L2)[k] = (l, rH, rK) → nodeR (nodes L2) l rH rK = k + 2 ∧ nodeN (nodes L2) l rH rK = nodes L2 := fun h => by
        have hm : (l, rH, rK) ∈ nodes L2 := h ▸ List.getElem_mem hlt
        have := idxOf_first _ _ k hlt h Hno.out
        unfold nodeR nodeN
        rw [if_neg hrr, if_neg hrr, if_pos hm, if_pos hm, this]
        exact ⟨rfl, rfl⟩
      have hre : ∀ w, (binOp .eql 32 (.agg #[.int .i64 ((nodes L2)[k]).1, .int .i64 ((nodes L2)[k]).2.1, .int .i64 ((nodes L2)[k]).2.2]) (.agg #[.int .i64 l, .int .i64 rH, .int .i64 rK])).run Try.prog w = .ok (.bool (decide ((nodes L2)[k] = (l, rH, rK)))) w := fun w => by
        have h := run_eql_tri w (castT (nodes L2)[k]) (castT (l, rH, rK))
        rw [show decide (castT (nodes L2)[k] = castT (l, rH, rK)) = decide ((nodes L2)[k] = (l, rH, rK)) from by rw [decide_eq_decide]; exact ⟨castT_inj, fun e => by rw [e]⟩] at h
        exact h
      generalize (nodes L2)[k] = x at *
      have Hnx := Lib.hid hnx; clear hnx
      have Hfd := Lib.hid hfd; clear hfd
      by_cases he : x = (l, rH, rK)
      · rw [show decide (x = (l, rH, rK)) = true by simp [he]] at hre
        obtain ⟨f1, f2⟩ := Hfd.out he
        clear he
        rw [f1] at Hfin
        rw [f2] at Hstep
        clear f1 f2
        go_wp2_with (first
          | ((with_reducible refine Lex.at_region ?_); with_reducible refine Lex.wp_region_lex (by kernel_rfl) (by decide +kernel) ?_)
          | ((with_reducible refine Lex.at_fin ?_); with_reducible refine Lex.fin_on (by kernel_rfl) ?_))
        go_ret
        have hI := HIq.out.below (Below.refl wr.heap.size wr).drew
        exact Hfin.out _ _ (Hstep.out _ _ _ _ hI (Fr.refl _ _ _) hI.blk hI.own) Hfq.out.drew
      · rw [show decide (x = (l, rH, rK)) = false by simp [he]] at hre
        have Hn2 := Lib.hid (Hnx.out he)
        clear he
        go_wp2_with (first
          | ((with_reducible refine Lex.at_region ?_); with_reducible refine Lex.wp_region_lex (by kernel_rfl) (by decide +kernel) ?_)
          | ((with_reducible refine Lex.at_fin ?_); with_reducible refine Lex.fin_on (by kernel_rfl) ?_))
        exact ⟨⟨k + 1, by go_num, by omega, Hn2.out, Hbx.out.drew⟩, by simp [intOf]; omega⟩
    · obtain rfl : k = (nodes L2).length := by omega
      have hnm : (l, rH, rK) ∉ nodes L2 := fun hm => by
        obtain ⟨i, hi, e⟩ := List.mem_iff_getElem.1 hm
        exact Hno.out i hi hi e
      have f1 : nodeR (nodes L2) l rH rK = (nodes L2).length + 2 := by unfold nodeR; rw [if_neg hrr, if_neg hnm]
      have f2 : nodeN (nodes L2) l rH rK = nodes L2 ++ [(l, rH, rK)] := by unfold nodeN; rw [if_neg hrr, if_neg hnm]
      rw [f1] at Hfin
      rw [f2] at Hstep
      clear f1 f2 hnm Hno
      have hdne : (Value.slice p2 (nodes L2).length c2).ownBlock ≠ some d := own_ne HIq.out.own HIq.out.blk (by decide)
      have Hov := Lib.hid (show ∀ g, (Value.slice p2 (nodes L2).length c2).ownBlock = some g → ¬ (g = d ∨ g = w2.heap.size) from fun g hg hx => by
        rcases hx with rfl | rfl
        · exact hdne hg
        · exact hob hg)
      have y0 := Lib.hid (show wr.drew.cell? ⟨d, 0, none⟩ = _ from d0)
      have y1 := Lib.hid (show wr.drew.cell? ⟨w2.heap.size, 0, none⟩ = _ from n0)
      have hbr := ((Below.refl wr.heap.size wr).alloc (Nat.le_refl _) (.cells #[.int .i64 l, .int .i64 rH, .int .i64 rK] 32)).drew
      have HBx := Lib.hid (HIq.out.below hbr)
      have Hbr := Lib.hid hbr; clear hbr
      have hlr := heap_lt Hnq.out
      have hld := heap_lt HIq.out.blk
      go_upto_region 16 with (first
        | ((with_reducible refine Lex.at_finK ?_); refine LexK.finE_on (by kernel_rfl) (by repeat first | exact LexK.finL_nil | refine LexK.finL_none rfl ?_ | refine LexK.finL_skip (by decide +kernel) ?_ | refine LexK.finL_take rfl (.inl rfl) y0.out ?_ | refine LexK.finL_take rfl (.inr rfl) y1.out ?_) ?_)
        | ((with_reducible refine Lex.at_region ?_); refine LexK.wp_region_lexE (fun x => x = d ∨ x = w2.heap.size) (by kernel_rfl) (by decide +kernel) ?_)
        | ((with_reducible refine Lex.at_wpX ?_); with_reducible refine LexK.wpX_plain (by decide +kernel) ?_)
        | ((with_reducible refine Lex.at_wpX ?_); with_reducible refine LexK.wpX_call ?_)
        | ((with_reducible refine Lex.at_wpX ?_); with_reducible refine LexK.wpX_nil ?_)
        | ((with_reducible refine Lex.at_ext ?_); with_reducible refine LexK.ext_on (LexK.Ext.alloc _ _) ?_)
        | ((with_reducible refine Lex.at_ext ?_); refine LexK.ext_on (ext_fr hf3 (by simp) Hov.out) ?_)
        | (at_builtin; go_loud (refine wpList_append_tri rfl (.tmp 67) (.tmp 69) 22 rfl (by kernel_rfl) Z _ wr.heap.size (l, rH, rK) (heap_alloc_new wr _) HBx.out.zw (.slice p2 (nodes L2).length c2) (nodes L2) rfl HBx.out.own (by omega) rfl ?_; intro v3 w3 ho3 hf3; obtain ⟨p3, c3, rfl⟩ := own_slice ho3; have Ho3 := Lib.hid ho3; clear ho3; have hblk3 := (hf3.block d (by have := Hbr.out.size; omega) (by simp) hdne).trans HBx.out.blk; obtain ⟨g30, -, fz3⟩ := cells2 hblk3)))
      have hU := Upd.cast (o' := .cells #[.slice p3 ((nodes L2).length + 1) c3, .int .i64 0] 24) (Upd.set (i := 0) (v := .slice p3 ((nodes L2).length + 1) c3) (Upd.refl hblk3)) (by simp)
      have hb8 := hU.blk
      have ho8 : (w3.setCell ⟨d, 0, none⟩ (.slice p3 ((nodes L2).length + 1) c3)).ownsRow Z 32 3 (.slice p3 ((nodes L2).length + 1) c3) ((nodes L2).length + 1) (triCells (nodes L2 ++ [(l, rH, rK)])) := ownsRow_at Ho3.out fun g hg => hU.other g fun e => own_ne Ho3.out hblk3 (by decide) (by rw [hg, e])
      have hf8 : Fr [d] (.slice p2 (nodes L2).length c2) (.slice p3 ((nodes L2).length + 1) c3) wr (w3.setCell ⟨d, 0, none⟩ (.slice p3 ((nodes L2).length + 1) c3)) := ((Fr.of_below Hbr.out).trans (hf3.mono (by simp))).trans (Fr.of_upd hU (by simp))
      generalize w3.setCell ⟨d, 0, none⟩ (.slice p3 ((nodes L2).length + 1) c3) = w8 at *
      clear hU g30 fz3 hblk3 hf3 y0 y1 n0 n1 n2 d0 dz
      obtain ⟨d0, -, -⟩ := cells2 hb8
      have Hb8 := Lib.hid hb8; have Ho8 := Lib.hid ho8; have Hf8 := Lib.hid hf8
      clear hb8 ho8 hf8
      go_wp2
      go_ret
      exact Hfin.out _ _ (Hstep.out _ _ _ _ HIq.out Hf8.out Hb8.out (by rw [List.length_append]; exact Ho8.out)) (Hfq.out.trans Hf8.out)
end Go.Proofs.Ytkppcibffbnhoaa
