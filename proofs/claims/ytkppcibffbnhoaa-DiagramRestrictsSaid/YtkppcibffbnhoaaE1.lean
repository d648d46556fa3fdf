/-
  Walks: combine's closure: what it keeps.
-/
import Derived.Test.YtkppcibffbnhoaaD5
namespace Go.Proofs.Ytkppcibffbnhoaa
open Go.RowKit

/-- What a combine has laid. -/
structure CP where
  Z : Nat
  opv : Nat
  rsv : Nat
  av : Nat
  bv : Nat
  ouv : Nat
  apv : Nat
  b : Nat
  kb : Nat
  rm : Nat
  OP : Nat
  op : Bool → Bool → Bool
  pa : Option Addr
  ca : Nat
  ra : Nat
  La : List T
  pb : Option Addr
  cb : Nat
  rb : Nat
  Lb : List T
/-- What does not turn in a combine. -/
structure CS (c : CP) (w : World) : Prop where
  opv : w.heap[c.opv]? = some (.cells #[.func (.func c.OP) #[] #[]] 67)
  rsv : w.heap[c.rsv]? = some (.cells #[.map (some c.rm)] 81)
  av : w.heap[c.av]? = some (.cells #[.slice c.pa (nodes c.La).length c.ca, .int .i64 c.ra] 24)
  bv : w.heap[c.bv]? = some (.cells #[.slice c.pb (nodes c.Lb).length c.cb, .int .i64 c.rb] 24)
  ouv : w.heap[c.ouv]? = some (.cells #[.pointer (some ⟨c.b, 0, none⟩)] 58)
  apv : w.heap[c.apv]? = some (.cells #[.func (.func 54) #[] #[.pointer (some ⟨c.opv, 0, none⟩), .pointer (some ⟨c.rsv, 0, none⟩), .pointer (some ⟨c.av, 0, none⟩), .pointer (some ⟨c.bv, 0, none⟩), .pointer (some ⟨c.ouv, 0, none⟩), .pointer (some ⟨c.apv, 0, none⟩)]] 82)
  na : NZ c.Z w c.pa (nodes c.La)
  nb : NZ c.Z w c.pb (nodes c.Lb)
  wfA : Wf c.La
  wfB : Wf c.Lb
  lA : c.La.length ≤ 4095
  lB : c.Lb.length ≤ 4095
  zb : c.Z ≤ c.b
  zkb : c.Z ≤ c.kb
  zrm : c.Z ≤ c.rm
  ne : c.kb ≠ c.rm
  zw : c.Z ≤ w.heap.size
  hcf : ∀ args w, (callFunc c.OP args).run Try.prog w = .ok (.enter c.OP args) w
  hop : ∀ p q w, Calls Try.prog c.OP #[.bool p, .bool q] w fun e w' => e = .returned (.bool (c.op p q)) ∧ w = w'
/-- What turns in a combine. -/
structure CT (c : CP) (L : List T) (K : List (Nat × Nat)) (f : Nat × Nat → Option Int) (v : Value) (w : World) : Prop where
  bd : BD w c.Z c.b c.kb v (nodes L)
  mp : MV w 83 lit2 good2 c.rm K.length f
  wf : Wf L
  memo : Memo c.op c.La c.Lb L K f
  len : L.length ≤ K.length
structure CI (c : CP) (L : List T) (K : List (Nat × Nat)) (f : Nat × Nat → Option Int) (v : Value) (w : World) : Prop where
  s : CS c w
  t : CT c L K f v w
theorem inn_ok {L : List T} (w : Wf L) : ∀ {t : T}, inn L t → t.Ok
  | .c _, _ => trivial
  | .n _ _ _, h => w.ok _ h
theorem CT.lens {c : CP} {L : List T} {K : List (Nat × Nat)} {f : Nat × Nat → Option Int} {v : Value} {w : World} (h : CT c L K f v w) (s : CS c w) : K.length ≤ 16785409 ∧ L.length ≤ 16785409 := by
  have := h.memo.len2 s.lA s.lB
  exact ⟨this, Nat.le_trans h.len this⟩
theorem CI.below {c : CP} {L : List T} {K : List (Nat × Nat)} {f : Nat × Nat → Option Int} {v : Value} {w w' : World} (h : CI c L K f v w) (hb : Below w.heap.size w w') : CI c L K f v w' := by
  have hz : Below c.Z w w' := ⟨hb.os, hb.tape, hb.output, hb.size, fun k hk => hb.block k (Nat.lt_of_lt_of_le hk h.s.zw)⟩
  have s := h.s
  exact ⟨⟨(hb.block _ (heap_lt s.opv)).trans s.opv, (hb.block _ (heap_lt s.rsv)).trans s.rsv, (hb.block _ (heap_lt s.av)).trans s.av, (hb.block _ (heap_lt s.bv)).trans s.bv, (hb.block _ (heap_lt s.ouv)).trans s.ouv, (hb.block _ (heap_lt s.apv)).trans s.apv, s.na.below hz, s.nb.below hz, s.wfA, s.wfB, s.lA, s.lB, s.zb, s.zkb, s.zrm, s.ne, Nat.le_trans s.zw hb.size, s.hcf, s.hop⟩,
    ⟨h.t.bd.below hb, h.t.mp.below hb, h.t.wf, h.t.memo, h.t.len⟩⟩
/-- A block of cells that is none of those that turn. -/
theorem CI.far {c : CP} {L : List T} {K : List (Nat × Nat)} {f : Nat × Nat → Option Int} {v : Value} {w : World} (h : CI c L K f v w) {x : Nat} {cs : Array Value} {t : TypeId} (hx : w.heap[x]? = some (.cells cs t)) (h1 : t ≠ 78) (h2 : t ≠ 32) : x ∉ [c.b, c.kb, c.rm] ∧ v.ownBlock ≠ some x := by
  obtain ⟨es, ck, hm⟩ := h.t.bd.kn.obj
  obtain ⟨es2, ck2, hm2⟩ := h.t.mp.obj
  refine ⟨?_, own_ne h.t.bd.own hx h2⟩
  simp only [List.mem_cons, List.not_mem_nil, or_false, not_or]
  exact ⟨ne_of hx h.t.bd.blk (by simp [h1]), ne_of hx hm (by simp), ne_of hx hm2 (by simp)⟩
theorem CI.keep {c : CP} {L : List T} {K : List (Nat × Nat)} {f : Nat × Nat → Option Int} {v v' : Value} {w w' : World} (h : CI c L K f v w) (hf : Fr [c.b, c.kb, c.rm] v v' w w') {x : Nat} {cs : Array Value} {t : TypeId} (hx : w.heap[x]? = some (.cells cs t)) (h1 : t ≠ 78) (h2 : t ≠ 32) : w'.heap[x]? = some (.cells cs t) := by
  obtain ⟨a, b⟩ := h.far hx h1 h2
  exact (hf.block _ (heap_lt hx) a b).trans hx
theorem CI.low {c : CP} {L : List T} {K : List (Nat × Nat)} {f : Nat × Nat → Option Int} {v v' : Value} {w w' : World} (h : CI c L K f v w) (hf : Fr [c.b, c.kb, c.rm] v v' w w') : Below c.Z w w' :=
  hf.below h.s.zw (by simp; exact ⟨h.s.zb, h.s.zkb, h.s.zrm⟩) fun g hg => (h.t.bd.own.lt g hg).1
theorem CI.stays {c : CP} {L : List T} {K : List (Nat × Nat)} {f : Nat × Nat → Option Int} {v v' : Value} {w w' : World} (h : CI c L K f v w) (hf : Fr [c.b, c.kb, c.rm] v v' w w') : CS c w' := by
  have s := h.s
  have hz := h.low hf
  exact ⟨h.keep hf s.opv (by decide) (by decide), h.keep hf s.rsv (by decide) (by decide), h.keep hf s.av (by decide) (by decide), h.keep hf s.bv (by decide) (by decide), h.keep hf s.ouv (by decide) (by decide), h.keep hf s.apv (by decide) (by decide),
    s.na.below hz, s.nb.below hz, s.wfA, s.wfB, s.lA, s.lB, s.zb, s.zkb, s.zrm, s.ne, Nat.le_trans s.zw hz.size, s.hcf, s.hop⟩
theorem CI.ext {c : CP} {L : List T} {K : List (Nat × Nat)} {f : Nat × Nat → Option Int} {v v' : Value} {w w' : World} (h : CI c L K f v w) (hf : Fr [c.b, c.kb, c.rm] v v' w w') : LexK.Ext (fun x => x = c.ouv ∨ x = c.apv) w w' := by
  obtain ⟨a1, b1⟩ := h.far h.s.ouv (by decide) (by decide)
  obtain ⟨a2, b2⟩ := h.far h.s.apv (by decide) (by decide)
  refine ext_fr hf ?_ ?_
  · rintro x hx (rfl | rfl)
    · exact a1 hx
    · exact a2 hx
  · rintro g hg (rfl | rfl)
    · exact b1 hg
    · exact b2 hg
/-- A node has been added. -/
theorem CI.mid {c : CP} {L : List T} {K : List (Nat × Nat)} {f : Nat × Nat → Option Int} {v v' : Value} {w w' : World} (h : CI c L K f v w) (hf : Fr [c.b, c.kb] v v' w w') : Fr [c.b, c.kb, c.rm] v v' w w' ∧ MV w' 83 lit2 good2 c.rm K.length f := by
  refine ⟨hf.mono (fun x hx => by simp at hx ⊢; omega), h.t.mp.at (hf.block _ h.t.mp.lt ?_ ?_)⟩
  · obtain ⟨es, ck, hm⟩ := h.t.mp.obj
    simp only [List.mem_cons, List.not_mem_nil, or_false, not_or]
    exact ⟨fun e => ne_of h.t.bd.blk hm (by simp) e.symm, fun e => h.s.ne e.symm⟩
  · obtain ⟨es, ck, hm⟩ := h.t.mp.obj
    exact own_ne_map h.t.bd.own hm
/-- And its result. -/
theorem CI.done {c : CP} {L : List T} {K : List (Nat × Nat)} {f : Nat × Nat → Option Int} {v v' : Value} {w w' w'' : World} (h : CI c L K f v w) {L' : List T} (hB : BD w' c.Z c.b c.kb v' (nodes L')) (hf : Fr [c.b, c.kb] v v' w w') (z : Nat × Nat) (r : Int) (hm : MV w'' 83 lit2 good2 c.rm (K.length + 1) (fun y => if y = z then some r else f y)) (ht : w'.mapTurned w'' c.rm)
    (hw : Wf L') (hmm : Memo c.op c.La c.Lb L' (z :: K) (fun y => if y = z then some r else f y)) (hl : L'.length ≤ L.length + 1) : CI c L' (z :: K) (fun y => if y = z then some r else f y) v' w'' ∧ Fr [c.b, c.kb, c.rm] v v' w w'' := by
  obtain ⟨hf1, hm1⟩ := h.mid hf
  have hf2 : Fr [c.b, c.kb, c.rm] v v' w w'' := hf1.trans (Fr.of_turned ht (by simp))
  obtain ⟨es, ck, hmo⟩ := hm1.obj
  have hB2 : BD w'' c.Z c.b c.kb v' (nodes L') := hB.at (ht.grown.block _ (heap_lt hB.blk) (by simp; exact ne_of hB.blk hmo (by simp))) (ht.grown.block _ hB.kn.lt (by simp; exact h.s.ne)) fun g hg => ht.grown.block _ (hB.own.lt g hg).2 (by simp; exact fun e => own_ne_map hB.own hmo (by rw [hg, e]))
  exact ⟨⟨h.stays hf2, ⟨hB2, hm, hw, hmm, Nat.le_trans hl (by simp; exact h.t.len)⟩⟩, hf2⟩
/-- More trees behind. -/
def Grow (L L' : List T) : Prop := ∃ M, L' = L ++ M
theorem Grow.refl (L : List T) : Grow L L := ⟨[], by simp⟩
theorem Grow.trans {A B C : List T} (h : Grow A B) (k : Grow B C) : Grow A C := by
  obtain ⟨M, rfl⟩ := h
  obtain ⟨N, rfl⟩ := k
  exact ⟨M ++ N, by simp⟩
theorem Grow.inn {A B : List T} (h : Grow A B) {t : T} (i : inn A t) : inn B t := by obtain ⟨M, rfl⟩ := h; exact inn_app i
theorem Grow.ref {A B : List T} (h : Grow A B) {t : T} (i : Proofs.Ytkppcibffbnhoaa.inn A t) : ref B t = Proofs.Ytkppcibffbnhoaa.ref A t := by obtain ⟨M, rfl⟩ := h; exact ref_app i
/-- A key that stands for two trees of at most m nodes. -/
def Small (c : CP) (m : Nat) (z : Nat × Nat) : Prop := ∃ s t, inn c.La s ∧ inn c.Lb t ∧ z = (ref c.La s, ref c.Lb t) ∧ s.sz + t.sz ≤ m
/-- What a call of the closure answers. -/
structure AR (c : CP) (R : T) (m : Nat) (L : List T) (K : List (Nat × Nat)) (v : Value) (w : World) (e : Ending) (w' : World) : Prop where
  ex : ∃ L' K' f' v', e = .returned (.int .i64 (ref L' R)) ∧ Grow L L' ∧ inn L' R ∧ CI c L' K' f' v' w' ∧ Fr [c.b, c.kb, c.rm] v v' w w' ∧ ∀ z ∈ K', z ∈ K ∨ Small c m z
theorem Fr.pair {S : List Nat} {v v' : Value} {w w' : World} {x : Nat} {o : Obj} (h : Fr S v v' w w') (hx : w.heap[x]? = some o) (hS : x ∉ S) (hv : v.ownBlock ≠ some x) : w'.heap[x]? = some o ∧ v'.ownBlock ≠ some x := by
  refine ⟨(h.block _ (heap_lt hx) hS hv).trans hx, fun e => ?_⟩
  rcases h.own with h1 | h1
  · exact hv (h1 ▸ e)
  · have := h1 _ e; have := heap_lt hx; omega
theorem node_step {c : CP} {L : List T} {K : List (Nat × Nat)} {f : Nat × Nat → Option Int} {v : Value} {w : World} (h : CI c L K f v w) (n : Nat) (H G : T) (iH : inn L H) (iG : inn L G) (hn : n < 12) (rH : Nat) (hr : rH = ref L H) :
    Calls Try.prog 32 #[.pointer (some ⟨c.b, 0, none⟩), .int .i64 n, .int .i64 rH, .int .i64 (ref L G)] w fun e w' => ∃ v', e = .returned (.int .i64 (ref (nodeL L n H G) (mk n H G))) ∧ BD w' c.Z c.b c.kb v' (nodes (nodeL L n H G)) ∧ Fr [c.b, c.kb] v v' w w' := by
  subst hr
  obtain ⟨l1, l2⟩ := h.t.lens h.s
  have r1 := ref_lt iH
  have r2 := ref_lt iG
  obtain ⟨e1, e2⟩ := nodeL_nodes (n := n) h.t.wf iH iG
  have := node_any c.Z c.b c.kb v (nodes L) n (ref L H) (ref L G) w h.t.bd h.s.zw (by rw [nodes_length]; omega) (by omega) (by omega) (by omega)
  rw [e1, e2] at this
  exact this
end Go.Proofs.Ytkppcibffbnhoaa
