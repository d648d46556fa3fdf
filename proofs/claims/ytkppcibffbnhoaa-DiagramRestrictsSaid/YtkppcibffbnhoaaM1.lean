/-
  Walks: Restrict's closure: what it keeps.
-/
import Derived.Test.YtkppcibffbnhoaaM0
namespace Go.Proofs.Ytkppcibffbnhoaa
open Go.RowKit

/-- What a Restrict has laid. -/
structure QP where
  Z : Nat
  rsv : Nat
  av : Nat
  apv : Nat
  lv : Nat
  ouv : Nat
  bv : Nat
  b : Nat
  kb : Nat
  rm : Nat
  ln : Int
  vb : Bool
  pa : Option Addr
  ca : Nat
  ra : Nat
  La : List T
/-- What does not turn. -/
structure QS (c : QP) (w : World) : Prop where
  rsv : w.heap[c.rsv]? = some (.cells #[.map (some c.rm)] 72)
  av : w.heap[c.av]? = some (.cells #[.slice c.pa (nodes c.La).length c.ca, .int .i64 c.ra] 24)
  lv : w.heap[c.lv]? = some (.cells #[.int .i64 c.ln] 3)
  ouv : w.heap[c.ouv]? = some (.cells #[.pointer (some ⟨c.b, 0, none⟩)] 58)
  bv : w.heap[c.bv]? = some (.cells #[.bool c.vb] 4)
  apv : w.heap[c.apv]? = some (.cells #[.func (.func 49) #[] #[.pointer (some ⟨c.rsv, 0, none⟩), .pointer (some ⟨c.av, 0, none⟩), .pointer (some ⟨c.apv, 0, none⟩), .pointer (some ⟨c.lv, 0, none⟩), .pointer (some ⟨c.ouv, 0, none⟩), .pointer (some ⟨c.bv, 0, none⟩)]] 73)
  na : NZ c.Z w c.pa (nodes c.La)
  wfA : Wf c.La
  lA : c.La.length ≤ 4095
  zb : c.Z ≤ c.b
  zkb : c.Z ≤ c.kb
  zrm : c.Z ≤ c.rm
  ne : c.kb ≠ c.rm
  zw : c.Z ≤ w.heap.size
/-- What turns. -/
structure QT (c : QP) (L : List T) (K : List Nat) (f : Nat → Option Int) (v : Value) (w : World) : Prop where
  bd : BD w c.Z c.b c.kb v (nodes L)
  mp : MV w 3 lit1 good1 c.rm K.length f
  wf : Wf L
  memo : Mem1 c.ln c.vb c.La L K f
  len : L.length ≤ K.length
structure QI (c : QP) (L : List T) (K : List Nat) (f : Nat → Option Int) (v : Value) (w : World) : Prop where
  s : QS c w
  t : QT c L K f v w
theorem QT.lens {c : QP} {L : List T} {K : List Nat} {f : Nat → Option Int} {v : Value} {w : World} (h : QT c L K f v w) (s : QS c w) : K.length ≤ 4097 ∧ L.length ≤ 4097 := by
  have := h.memo.len
  have := s.lA
  exact ⟨by omega, Nat.le_trans h.len (by omega)⟩
theorem QI.below {c : QP} {L : List T} {K : List Nat} {f : Nat → Option Int} {v : Value} {w w' : World} (h : QI c L K f v w) (hb : Below w.heap.size w w') : QI c L K f v w' := by
  have hz : Below c.Z w w' := ⟨hb.os, hb.tape, hb.output, hb.size, fun k hk => hb.block k (Nat.lt_of_lt_of_le hk h.s.zw)⟩
  have s := h.s
  exact ⟨⟨(hb.block _ (heap_lt s.rsv)).trans s.rsv, (hb.block _ (heap_lt s.av)).trans s.av, (hb.block _ (heap_lt s.lv)).trans s.lv, (hb.block _ (heap_lt s.ouv)).trans s.ouv, (hb.block _ (heap_lt s.bv)).trans s.bv, (hb.block _ (heap_lt s.apv)).trans s.apv, s.na.below hz, s.wfA, s.lA, s.zb, s.zkb, s.zrm, s.ne, Nat.le_trans s.zw hb.size⟩,
    ⟨h.t.bd.below hb, h.t.mp.below hb, h.t.wf, h.t.memo, h.t.len⟩⟩
theorem QI.far {c : QP} {L : List T} {K : List Nat} {f : Nat → Option Int} {v : Value} {w : World} (h : QI c L K f v w) {x : Nat} {cs : Array Value} {t : TypeId} (hx : w.heap[x]? = some (.cells cs t)) (h1 : t ≠ 78) (h2 : t ≠ 32 ∨ x < c.Z) (h3 : ∀ g, v.ownBlock = some g → c.Z ≤ g) : x ∉ [c.b, c.kb, c.rm] ∧ v.ownBlock ≠ some x := by
  obtain ⟨es, ck, hm⟩ := h.t.bd.kn.obj
  obtain ⟨es2, ck2, hm2⟩ := h.t.mp.obj
  refine ⟨?_, fun e => ?_⟩
  · simp only [List.mem_cons, List.not_mem_nil, or_false, not_or]
    exact ⟨ne_of hx h.t.bd.blk (by simp [h1]), ne_of hx hm (by simp), ne_of hx hm2 (by simp)⟩
  · rcases h2 with h2 | h2
    · exact own_ne h.t.bd.own hx h2 e
    · have := h3 _ e; omega
theorem QI.far' {c : QP} {L : List T} {K : List Nat} {f : Nat → Option Int} {v : Value} {w : World} (h : QI c L K f v w) {x : Nat} {cs : Array Value} {t : TypeId} (hx : w.heap[x]? = some (.cells cs t)) (h1 : t ≠ 78) (h2 : t ≠ 32) : x ∉ [c.b, c.kb, c.rm] ∧ v.ownBlock ≠ some x :=
  h.far hx h1 (.inl h2) fun g hg => (h.t.bd.own.lt g hg).1
theorem QI.keep {c : QP} {L : List T} {K : List Nat} {f : Nat → Option Int} {v v' : Value} {w w' : World} (h : QI c L K f v w) (hf : Fr [c.b, c.kb, c.rm] v v' w w') {x : Nat} {cs : Array Value} {t : TypeId} (hx : w.heap[x]? = some (.cells cs t)) (h1 : t ≠ 78) (h2 : t ≠ 32) : w'.heap[x]? = some (.cells cs t) := by
  obtain ⟨a, b⟩ := h.far' hx h1 h2
  exact (hf.block _ (heap_lt hx) a b).trans hx
theorem QI.low {c : QP} {L : List T} {K : List Nat} {f : Nat → Option Int} {v v' : Value} {w w' : World} (h : QI c L K f v w) (hf : Fr [c.b, c.kb, c.rm] v v' w w') : Below c.Z w w' :=
  hf.below h.s.zw (by simp; exact ⟨h.s.zb, h.s.zkb, h.s.zrm⟩) fun g hg => (h.t.bd.own.lt g hg).1
theorem QI.stays {c : QP} {L : List T} {K : List Nat} {f : Nat → Option Int} {v v' : Value} {w w' : World} (h : QI c L K f v w) (hf : Fr [c.b, c.kb, c.rm] v v' w w') : QS c w' := by
  have s := h.s
  have hz := h.low hf
  exact ⟨h.keep hf s.rsv (by decide) (by decide), h.keep hf s.av (by decide) (by decide), h.keep hf s.lv (by decide) (by decide), h.keep hf s.ouv (by decide) (by decide), h.keep hf s.bv (by decide) (by decide), h.keep hf s.apv (by decide) (by decide),
    s.na.below hz, s.wfA, s.lA, s.zb, s.zkb, s.zrm, s.ne, Nat.le_trans s.zw hz.size⟩
/-- A node has been added. -/
theorem QI.mid {c : QP} {L : List T} {K : List Nat} {f : Nat → Option Int} {v v' : Value} {w w' : World} (h : QI c L K f v w) (hf : Fr [c.b, c.kb] v v' w w') : Fr [c.b, c.kb, c.rm] v v' w w' ∧ MV w' 3 lit1 good1 c.rm K.length f := by
  refine ⟨hf.mono (fun x hx => by simp at hx ⊢; omega), h.t.mp.at (hf.block _ h.t.mp.lt ?_ ?_)⟩
  · obtain ⟨es, ck, hm⟩ := h.t.mp.obj
    simp only [List.mem_cons, List.not_mem_nil, or_false, not_or]
    exact ⟨fun e => ne_of h.t.bd.blk hm (by simp) e.symm, fun e => h.s.ne e.symm⟩
  · obtain ⟨es, ck, hm⟩ := h.t.mp.obj
    exact own_ne_map h.t.bd.own hm
/-- And its result. -/
theorem QI.done {c : QP} {L : List T} {K : List Nat} {f : Nat → Option Int} {v v' : Value} {w w' w'' : World} (h : QI c L K f v w) {L' : List T} (hB : BD w' c.Z c.b c.kb v' (nodes L')) (hf : Fr [c.b, c.kb] v v' w w') (z : Nat) (r : Int) (hm : MV w'' 3 lit1 good1 c.rm (K.length + 1) (fun y => if y = z then some r else f y)) (ht : w'.mapTurned w'' c.rm)
    (hw : Wf L') (hmm : Mem1 c.ln c.vb c.La L' (z :: K) (fun y => if y = z then some r else f y)) (hl : L'.length ≤ L.length + 1) : QI c L' (z :: K) (fun y => if y = z then some r else f y) v' w'' ∧ Fr [c.b, c.kb, c.rm] v v' w w'' := by
  obtain ⟨hf1, hm1⟩ := h.mid hf
  have hf2 : Fr [c.b, c.kb, c.rm] v v' w w'' := hf1.trans (Fr.of_turned ht (by simp))
  obtain ⟨es, ck, hmo⟩ := hm1.obj
  have hB2 : BD w'' c.Z c.b c.kb v' (nodes L') := hB.at (ht.grown.block _ (heap_lt hB.blk) (by simp; exact ne_of hB.blk hmo (by simp))) (ht.grown.block _ hB.kn.lt (by simp; exact h.s.ne)) fun g hg => ht.grown.block _ (hB.own.lt g hg).2 (by simp; exact fun e => own_ne_map hB.own hmo (by rw [hg, e]))
  exact ⟨⟨h.stays hf2, ⟨hB2, hm, hw, hmm, Nat.le_trans hl (by simp; exact h.t.len)⟩⟩, hf2⟩
/-- A key that stands for a tree of at most m nodes. -/
def SmallQ (c : QP) (m : Nat) (z : Nat) : Prop := ∃ s, inn c.La s ∧ z = ref c.La s ∧ s.sz ≤ m
/-- What a call of the closure answers. -/
structure QR (c : QP) (R : T) (m : Nat) (L : List T) (K : List Nat) (v : Value) (w : World) (e : Ending) (w' : World) : Prop where
  ex : ∃ L' K' f' v', e = .returned (.int .i64 (ref L' R)) ∧ Grow L L' ∧ inn L' R ∧ QI c L' K' f' v' w' ∧ Fr [c.b, c.kb, c.rm] v v' w w' ∧ ∀ z ∈ K', z ∈ K ∨ SmallQ c m z
theorem nodeq_step {c : QP} {L : List T} {K : List Nat} {f : Nat → Option Int} {v : Value} {w : World} (h : QI c L K f v w) (n : Nat) (H G : T) (iH : inn L H) (iG : inn L G) (hn : n < 12) (rH : Nat) (hr : rH = ref L H) :
    Calls Try.prog 32 #[.pointer (some ⟨c.b, 0, none⟩), .int .i64 n, .int .i64 rH, .int .i64 (ref L G)] w fun e w' => ∃ v', e = .returned (.int .i64 (ref (nodeL L n H G) (mk n H G))) ∧ BD w' c.Z c.b c.kb v' (nodes (nodeL L n H G)) ∧ Fr [c.b, c.kb] v v' w w' := by
  subst hr
  obtain ⟨l1, l2⟩ := h.t.lens h.s
  have r1 := ref_lt iH
  have r2 := ref_lt iG
  obtain ⟨e1, e2⟩ := nodeL_nodes (n := n) h.t.wf iH iG
  have := node_any c.Z c.b c.kb v (nodes L) n (ref L H) (ref L G) w h.t.bd h.s.zw (by rw [nodes_length]; omega) (by omega) (by omega) (by omega)
  rw [e1, e2] at this
  exact this
end Go.Proofs.Ytkppcibffbnhoaa
