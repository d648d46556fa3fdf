/- Walks and plain facts for the laws of membership, for all values and types that the heap holds (texts X1 X2). -/
import Derived.Test.YtjgldaaofdpcgaaGreatU16
import Derived.Test.YtjgldaaofdpcgaaGreatU19
import Derived.Test.YtjgldaaofdpcgaaGreatU28
set_option linter.unusedVariables false
set_option linter.unusedSimpArgs false
namespace Go.Proofs.YtjgldaaofdpcgaaGreat
open Go.RowKit
set_option maxRecDepth 100000
structure CX (w : World) (T : Ty) (bs ba bt bw : Nat) (f : Nat → Int) : Prop where
  s : w.heap[bs]? = some (.cells #[.slice (some ⟨ba, 0, none⟩) T.len T.len] 22)
  a : MI w ba T.len f
  t : BT (wo ba w) bt T
  g : w.heap[bw]? = some (.cells #[.func (.func 90) #[] #[.pointer (some ⟨bs, 0, none⟩), .pointer (some ⟨bt, 0, none⟩), .pointer (some ⟨bw, 0, none⟩)]] 71)
  ns : bs ≠ ba
  nw : bw ≠ ba
theorem CX.turn {w w' : World} {T : Ty} {bs ba bt bw : Nat} {f f' : Nat → Int} (h : CX w T bs ba bt bw f) (hb : Below w.heap.size (wo ba w) (wo ba w')) (ha : MI w' ba T.len f') : CX w' T bs ba bt bw f' := by
  have e : ∀ k, k < w.heap.size → k ≠ ba → w'.heap[k]? = w.heap[k]? := fun k hk hn => by
    have := hb.block k hk
    rwa [wo_at hn, wo_at hn] at this
  exact ⟨(e _ (heap_lt h.s) h.ns).trans h.s, ha, h.t.below (by rw [wo_size]; exact hb), (e _ (heap_lt h.g) h.nw).trans h.g, h.ns, h.nw⟩
theorem CX.below {w w' : World} {T : Ty} {bs ba bt bw : Nat} {f : Nat → Int} (h : CX w T bs ba bt bw f) (hb : Below w.heap.size w w') : CX w' T bs ba bt bw f := h.turn (wo_below hb) (h.a.below hb)
theorem wo_ne {w : World} {b k : Nat} {vs : Array Value} {e : TypeId} {fr : Nat × Nat} (h : (wo b w).heap[k]? = some (.cells vs e fr)) (hv : 0 < vs.size) : k ≠ b ∧ w.heap[k]? = some (.cells vs e fr) := by
  have hn : k ≠ b := by
    rintro rfl
    rw [wo_self] at h
    by_cases g : k < w.heap.size
    · rw [if_pos g] at h
      injection h with h
      injection h with h1
      subst h1
      simp at hv
    · rw [if_neg g] at h; cases h
  exact ⟨hn, by rwa [wo_at hn] at h⟩
theorem CX.node {w : World} {T : Ty} {bs ba bt bw : Nat} {f : Nat → Int} (h : CX w T bs ba bt bw f) {i : Nat} (hi : i < T.len) :
    ∃ p c a o p1 c1, p = some ⟨a, o, none⟩ ∧ w.heap[bt]? = some (.cells #[.slice p T.nodes.length c, .int .i64 T.root] 31) ∧ w.cell? ⟨a, o + i * 8, none⟩ = some (.int .i64 (T.node (i : Nat)).kind) ∧
      w.cell? ⟨a, o + i * 8 + 4, none⟩ = some (.slice p1 (T.node (i : Nat)).kids.length c1) ∧ IS (wo ba w) (.slice p1 (T.node (i : Nat)).kids.length c1) (T.node (i : Nat)).kids ∧ (T.node (i : Nat)).kids.length ≤ 9223372036854775807 := by
  obtain ⟨s0, s1, h1, p, c, e, h2, h3⟩ := h.t
  obtain ⟨hn, h4⟩ := wo_ne h1 (by simp)
  injection e with e
  simp at e
  obtain ⟨rfl, rfl⟩ := e
  have hi' : i < T.nodes.length := hi
  obtain ⟨a, o, cs, hp, -, -, hr, p1, c1, p2, c2, rfl, h5, -⟩ := h2.at hi'
  rw [T.node_at hi']
  exact ⟨p, c, a, o, p1, c1, hp, h4, by have := hr 0 _ rfl; exact wo_cell this, by have := hr 4 _ rfl; exact wo_cell this, h5, h3 _ (List.getElem_mem hi')⟩
def CWR (T : Ty) (bs ba bt bw : Nat) (f : Nat → Int) (O : List Nat) (i : Nat) (w : World) (e : Ending) (w' : World) : Prop :=
  ∃ (b : Bool) (f' : Nat → Int), e = .returned (.bool b) ∧ CX w' T bs ba bt bw f' ∧ Below w.heap.size (wo ba w) (wo ba w') ∧
    (b = true → DfI T f' O ∧ (∀ m, m < T.len → f m ≠ 0 → f' m = f m) ∧ ((T.node (i : Nat)).bool = true → f' i = 2)) ∧ (b = false → ¬ Ctr T)
set_option maxHeartbeats 16000000 in
theorem walk_step (T : Ty) (hK : KidsT T) (bs ba bt bw : Nat) (f : Nat → Int) (O : List Nat) (i : Nat) (w : World) (hi : i < T.len) (hD : DfI T f O) (hO : ∀ o ∈ O, BW T o i) (hX : CX w T bs ba bt bw f)
    (IH : ∀ (f' : Nat → Int) (O' : List Nat) (i' : Nat) (w' : World), zeros T.len f' < zeros T.len f → i' < T.len → DfI T f' O' → (∀ o ∈ O', BW T o i') → CX w' T bs ba bt bw f' →
      Calls Tryz.prog 90 #[.int .i64 (i' : Nat), .pointer (some ⟨bs, 0, none⟩), .pointer (some ⟨bt, 0, none⟩), .pointer (some ⟨bw, 0, none⟩)] w' (CWR T bs ba bt bw f' O' i' w')) :
    Calls Tryz.prog 90 #[.int .i64 (i : Nat), .pointer (some ⟨bs, 0, none⟩), .pointer (some ⟨bt, 0, none⟩), .pointer (some ⟨bw, 0, none⟩)] w (CWR T bs ba bt bw f O i w) := by
  have HI := Lib.hid IH; have HX := Lib.hid hX; have HD := Lib.hid hD; have HO := Lib.hid hO; have HK := Lib.hid hK; have Hi := Lib.hid hi
  have s0 : w.cell? ⟨bs, 0, none⟩ = some (.slice (some ⟨ba, 0, none⟩) T.len T.len) := by simp [World.cell?, hX.s]
  have a0 := hX.a.cell hi
  clear IH hX hD hO hK
  by_cases h0 : f i = 0
  rotate_left
  · have d0 : (f i != 0) = true := by simp [h0]
    rcases HD.out.range i hi with h | h | h
    · exact absurd h h0
    · have Hno := Lib.hid (show ¬ Ctr T from (HO.out i (HD.out.opn i hi h)).cyc)
      rw [h] at a0 d0
      clear h h0 hi
      go_enter Tryz.func90, Tryz.ntmps90
      go_wp2
      go_ret
      exact ⟨_, f, rfl, HX.out, Below.refl _ _, fun h => by simp at h, fun _ => Hno.out⟩
    · have Hy := Lib.hid h
      rw [h] at a0 d0
      clear h h0 hi
      go_enter Tryz.func90, Tryz.ntmps90
      go_wp2
      go_ret
      exact ⟨_, f, rfl, HX.out, Below.refl _ _, fun _ => ⟨HD.out, fun _ _ _ => rfl, fun _ => Hy.out⟩, fun h => by simp at h⟩
  have H0 := Lib.hid h0
  have hlt : (i : Int) < (T.nodes.length : Int) := by have : i < T.nodes.length := hi; omega
  obtain ⟨p, c, a, o, p1, c1, rfl, ht, z0, z4, hkids, hkl⟩ := HX.out.node hi
  obtain ⟨t0, t1⟩ := cells2 ht
  have Hkids := Lib.hid hkids
  have Hbo := Lib.hid (isBoolean_any (T.node (i : Nat)).kind w)
  have Hbk := Lib.hid (bool_kind (T.node (i : Nat)))
  rw [h0] at a0
  clear h0 hkids
  cases hb : boolK (T.node (i : Nat)).kind with
  | false =>
    rw [hb] at Hbo Hbk
    clear hb
    generalize (T.node (i : Nat)).kind = kd at *
    go_enter Tryz.func90, Tryz.ntmps90
    go_wp2_with (go_at_call 91; refine Hbo.out.mono ?_; rintro e w1 ⟨rfl, hb1⟩; have HX1 := Lib.hid (HX.out.below hb1); have Hb1 := Lib.hid hb1; clear s0 a0 t0 t1 z0 z4 ht hb1; have s0 : w1.cell? ⟨bs, 0, none⟩ = some (.slice (some ⟨ba, 0, none⟩) T.len T.len) := (by simp [World.cell?, HX1.out.s]); have a0 := HX1.out.a.cell Hi.out; rw [H0.out] at a0)
    go_ret
    exact ⟨_, f, rfl, HX1.out, wo_below Hb1.out, fun _ => ⟨HD.out, fun _ _ _ => rfl, fun h => by rw [Hbk.out] at h; cases h⟩, fun h => by simp at h⟩
  | true =>
    rw [hb] at Hbo Hbk
    clear hb
    generalize (T.node (i : Nat)).kind = kd at *
    go_enter Tryz.func90, Tryz.ntmps90
    go_upto_region 3 with (go_at_call 91; refine Hbo.out.mono ?_; rintro e w1 ⟨rfl, hb1⟩; have HX1 := Lib.hid (HX.out.below hb1); have Hb1 := Lib.hid hb1; clear s0 a0 t0 t1 z0 z4 ht hb1; have s0 : w1.cell? ⟨bs, 0, none⟩ = some (.slice (some ⟨ba, 0, none⟩) T.len T.len) := (by simp [World.cell?, HX1.out.s]); have a0 := HX1.out.a.cell Hi.out; have a1 := HX1.out.a.free i)
    obtain ⟨hM, o2, hU⟩ := HX1.out.a.set Hi.out 1
    rw [H0.out] at a0
    go_upto_region 4 with fail
    generalize w1.setCell ⟨ba, i, none⟩ (.int .i64 1) = w2 at *
    have HX2 := Lib.hid (HX1.out.turn (wo_upd hU) hM)
    have Hb2 := Lib.hid (show Below w.heap.size (wo ba w) (wo ba w2) from (wo_below Hb1.out).trans ((wo_upd hU).mono Hb1.out.size))
    have HD2 := Lib.hid (HD.out.push Hi.out H0.out)
    clear s0 a0 a1 hM hU
    obtain ⟨p', c', a', o', p1', c1', ep, ht2, -, z4, hkids2, -⟩ := HX2.out.node Hi.out
    obtain ⟨t0, t1⟩ := cells2 ht2
    subst ep
    have Hkids2 := Lib.hid hkids2
    clear hkids2 ht2
    obtain ⟨wq, hwq⟩ : ∃ wq : World, wq = w2 := ⟨_, rfl⟩
    subst hwq
    have HKi := Lib.hid (fun x hx => HK.out i Hi.out Hbk.out x hx)
    have Hone := Lib.hid (fun (k : Nat) hk => BW.one (T := T) (k := k) Hi.out Hbk.out hk)
    have Hstep := Lib.hid (fun (q k : Nat) (hq : BW T q i) hk => BW.step (k := k) hq Hi.out Hbk.out hk)
    have Hpop := Lib.hid (fun (f' : Nat → Int) (h : DfI T f' (i :: O)) (hn : i ∉ O) (hk : ∀ k : Nat, (k : Int) ∈ (T.node (i : Nat)).kids → (T.node (k : Nat)).bool = true → f' k = 2) => h.pop hn hk)
    generalize (T.node (i : Nat)).kids = ks at *
    go_wp2
    go_loopw [38] (fun j wr => ∃ (k : Nat) (f' : Nat → Int), j = .int .i64 k ∧ k ≤ ks.length ∧ CX wr T bs ba bt bw f' ∧ Below wq.heap.size (wo ba wq) (wo ba wr) ∧ DfI T f' (i :: O) ∧ (∀ m, m < T.len → (if m = i then 1 else f m) ≠ 0 → f' m = if m = i then 1 else f m) ∧ (∀ j (h : j < ks.length), j < k → (T.node ks[j]).bool = true → f' ks[j].toNat = 2)) (fun j _ => ks.length - (intOf j).toNat)
    case atStart => exact ⟨0, _, rfl, by omega, HX2.out, Below.refl _ _, HD2.out, fun _ _ _ => rfl, fun j _ h => by omega⟩
    case round =>
      obtain ⟨k, f', rfl, hk, hx, hb, hd, hm, hall⟩ := hrel
      have HXr := Lib.hid hx; have Hbr := Lib.hid hb; have HDr := Lib.hid hd; have Hmr := Lib.hid hm; have Har := Lib.hid hall
      clear hx hb hd hm hall t0 t1 z4
      by_cases hlt : k < ks.length
      · obtain ⟨-, ak, ok, rfl, -, zk⟩ := (Hkids2.out.below (by rw [wo_size]; exact Hbr.out)).at hlt
        have zk := wo_cell zk
        have g0 : wr.cell? ⟨bw, 0, none⟩ = some (.func (.func 90) #[] #[.pointer (some ⟨bs, 0, none⟩), .pointer (some ⟨bt, 0, none⟩), .pointer (some ⟨bw, 0, none⟩)]) := by simp [World.cell?, HXr.out.g]
        obtain ⟨m, hm, hml⟩ := has_nat (HKi.out _ (List.getElem_mem hlt))
        have hmem : ((m : Nat) : Int) ∈ ks := by rw [← hm]; exact List.getElem_mem hlt
        have Hm := Lib.hid hm
        rw [hm] at zk
        have hfi : f' i = 1 := by have := Hmr.out i Hi.out (by simp); simpa using this
        have hz : zeros T.len f' < zeros T.len f := zeros_lt (fun j hj h => by
          by_cases e : j = i
          · rw [e]; exact H0.out
          · rcases Decidable.em (f j = 0) with g | g
            · exact g
            · have := Hmr.out j hj (by simpa [e] using g)
              simp only [e, if_false] at this
              omega) Hi.out H0.out (by omega)
        have Hcall := Lib.hid (HI.out f' (i :: O) m wr hz hml HDr.out (fun q hq => by
          rcases List.mem_cons.1 hq with rfl | hq
          · exact Hone.out m hmem
          · exact Hstep.out q m (HO.out q hq) hmem) HXr.out)
        clear hm hz hfi
        go_wp2_with (go_at_call 90; refine Hcall.out.mono ?_; rintro e w6 ⟨b, f6, rfl, hx6, hb6, ht6, hf6⟩; have HX6 := Lib.hid hx6; have Hb6 := Lib.hid (show Below wq.heap.size (wo ba wq) (wo ba w6) from Hbr.out.trans (hb6.mono (by have := Hbr.out.size; rwa [wo_size, wo_size] at this))); have Ht6 := Lib.hid ht6; have Hf6 := Lib.hid hf6; clear hx6 hb6 ht6 hf6; cases b)
        · go_ret
          exact ⟨_, f6, rfl, HX6.out, Hb2.out.trans (Hb6.out.mono (by have := Hb2.out.size; rwa [wo_size, wo_size] at this)), fun h => by simp at h, fun _ => Hf6.out (by trivial)⟩
        · obtain ⟨hd6, hm6, hk6⟩ := Ht6.out (by trivial)
          refine ⟨⟨k + 1, f6, by go_num, by omega, HX6.out, Hb6.out, hd6, fun q hq g => ?_, fun j h hjk hbj => ?_⟩, by simp [intOf]; omega⟩
          · have e1 := Hmr.out q hq g
            rw [hm6 q hq (by rw [e1]; exact g), e1]
          · rcases Nat.lt_succ_iff_lt_or_eq.1 hjk with g | rfl
            · have e1 := Har.out j h g hbj
              obtain ⟨q, hq, hql⟩ := has_nat (HKi.out _ (List.getElem_mem h))
              rw [hq, Int.toNat_natCast] at e1 ⊢
              rw [hm6 q hql (by omega), e1]
            · rw [Hm.out] at hbj ⊢
              exact hk6 hbj
      · obtain rfl : k = ks.length := by omega
        have s0 : wr.cell? ⟨bs, 0, none⟩ = some (.slice (some ⟨ba, 0, none⟩) T.len T.len) := by simp [World.cell?, HXr.out.s]
        have a0 := HXr.out.a.cell Hi.out
        have a1 := HXr.out.a.free i
        have hii : (i : Int) < (T.len : Int) := by have := Hi.out; omega
        obtain ⟨hM, o2, hU⟩ := HXr.out.a.set Hi.out 2
        have HXe := Lib.hid (HXr.out.turn (wo_upd hU) hM)
        have Hbe := Lib.hid (show Below wq.heap.size (wo ba wq) (wo ba (wr.setCell ⟨ba, i, none⟩ (.int .i64 2))) from Hbr.out.trans ((wo_upd hU).mono (by have := Hbr.out.size; rwa [wo_size, wo_size] at this)))
        clear hM hU
        go_wp2
        go_ret
        refine ⟨_, _, rfl, HXe.out, Hb2.out.trans (Hbe.out.mono (by have := Hb2.out.size; rwa [wo_size, wo_size] at this)), fun _ => ⟨Hpop.out f' HDr.out (fun h => ?_) (fun q hq hbq => ?_), fun m hm g => ?_, fun _ => by simp⟩, fun h => by simp at h⟩
        · have := (HD.out.all i h).2
          have := H0.out
          omega
        · obtain ⟨j, hj, e⟩ := List.mem_iff_getElem.1 hq
          have := Har.out j hj hj (by rw [e]; exact hbq)
          rw [e, Int.toNat_natCast] at this
          exact this
        · have e : m ≠ i := fun e => g (by rw [e]; exact H0.out)
          have := Hmr.out m hm (by simpa [e] using g)
          simpa [e] using this
theorem walk_any (T : Ty) (hK : KidsT T) (bs ba bt bw : Nat) : ∀ (N : Nat) (f : Nat → Int) (O : List Nat) (i : Nat) (w : World), zeros T.len f ≤ N → i < T.len → DfI T f O → (∀ o ∈ O, BW T o i) → CX w T bs ba bt bw f →
    Calls Tryz.prog 90 #[.int .i64 (i : Nat), .pointer (some ⟨bs, 0, none⟩), .pointer (some ⟨bt, 0, none⟩), .pointer (some ⟨bw, 0, none⟩)] w (CWR T bs ba bt bw f O i w) := by
  intro N
  induction N with
  | zero => intro f O i w hz hi hD hO hX; exact walk_step T hK bs ba bt bw f O i w hi hD hO hX fun f' O' i' w' h => by omega
  | succ N ih => intro f O i w hz hi hD hO hX; exact walk_step T hK bs ba bt bw f O i w hi hD hO hX fun f' O' i' w' h => ih f' O' i' w' (by omega)
end Go.Proofs.YtjgldaaofdpcgaaGreat
namespace Go.Proofs.YtjgldaaofdpcgaaGreat
open Go.RowKit
set_option maxRecDepth 100000
open Classical in
set_option maxHeartbeats 16000000 in
theorem contractive_any (T : Ty) (w : World) (t : Value) (ht : TS w t T) (hK : KidsT T) (hn : T.len ≤ 100000) : Calls Tryz.prog 54 #[t] w (ER (decide (Ctr T)) w) := by
  have HK := Lib.hid hK
  have HT := Lib.hid ht
  obtain ⟨pt, ct, rfl, -⟩ := ht
  obtain ⟨ib, hi, hz, hz1, hz2⟩ := info_parts int3_info
  have Hi := Lib.hid hi; have Hz := Lib.hid hz; have Hz1 := Lib.hid hz1; have Hz2 := Lib.hid hz2
  have hmf : ∀ (fn : Fn) (first cap : Array Value) (w : World), (Instr.makeFunc fn first cap).run Tryz.prog w = .ok (.func fn first cap) w := fun _ _ _ _ => rfl
  have hA1 := (Below.refl w.heap.size w).alloc (Nat.le_refl _) (.cells #[.slice pt T.nodes.length ct, .int .i64 T.root] 31)
  have hn1 := heap_alloc_new w (.cells #[.slice pt T.nodes.length ct, .int .i64 T.root] 31)
  have hs1 : (w.alloc (.cells #[.slice pt T.nodes.length ct, .int .i64 T.root] 31)).heap.size = w.heap.size + 1 := by simp
  clear hi hz hz1 hz2 hK
  go_enter Tryz.func54, Tryz.ntmps54
  go_upto_region 1 with fail
  generalize w.alloc (.cells #[.slice pt T.nodes.length ct, .int .i64 T.root] 31) = w1 at *
  obtain ⟨t0, t1⟩ := cells2 hn1
  have HB1 := Lib.hid (show BT w1 w.heap.size T from ⟨_, _, hn1, HT.out.below hA1⟩)
  have hA2 := (Below.refl w1.heap.size w1).alloc (Nat.le_refl _) (.cells (madeCells #[.int .i64 0] T.nodes.length) 3)
  have T2 := MI.made w1 T.nodes.length
  have hs2 : (w1.alloc (.cells (madeCells #[.int .i64 0] T.nodes.length) 3)).heap.size = w1.heap.size + 1 := by simp
  have hlen : T.nodes.length ≤ 100000 := hn
  have Hs2 := Lib.hid hs2
  clear hs2
  go_upto_region 4 with (at_make; refine wpList_make_row w1 rfl (.tmp 8) (.tmp 8) 22 rfl 3 ib (.int .i64 0) (by kernel_rfl) Hi.out Hz.out Hz1.out rfl .i64 .i64 T.nodes.length rfl rfl (by rw [Hz2.out]; omega) (by omega) ?_; generalize w1.alloc (.cells (madeCells #[.int .i64 0] T.nodes.length) 3) = w2 at *)
  have hs2 := Hs2.out
  rw [hs1] at T2 hs2
  have hX : CX ((w2.alloc (.cells #[.slice (some ⟨w.heap.size + 1, 0, none⟩) T.nodes.length T.nodes.length] 22)).alloc (.cells #[.func (.func 90) #[] #[.pointer (some ⟨w2.heap.size, 0, none⟩), .pointer (some ⟨w.heap.size, 0, none⟩), .pointer (some ⟨w2.heap.size + 1, 0, none⟩)]] 71)) T w2.heap.size (w.heap.size + 1) w.heap.size (w2.heap.size + 1) (fun _ => 0) ∧
      Below w2.heap.size w2 ((w2.alloc (.cells #[.slice (some ⟨w.heap.size + 1, 0, none⟩) T.nodes.length T.nodes.length] 22)).alloc (.cells #[.func (.func 90) #[] #[.pointer (some ⟨w2.heap.size, 0, none⟩), .pointer (some ⟨w.heap.size, 0, none⟩), .pointer (some ⟨w2.heap.size + 1, 0, none⟩)]] 71)) := by
    have n3 := heap_alloc_new w2 (.cells #[.slice (some ⟨w.heap.size + 1, 0, none⟩) T.nodes.length T.nodes.length] 22)
    have hb3 := (Below.refl w2.heap.size w2).alloc (Nat.le_refl _) (.cells #[.slice (some ⟨w.heap.size + 1, 0, none⟩) T.nodes.length T.nodes.length] 22)
    have s3 : (w2.alloc (.cells #[.slice (some ⟨w.heap.size + 1, 0, none⟩) T.nodes.length T.nodes.length] 22)).heap.size = w2.heap.size + 1 := by simp
    generalize w2.alloc (.cells #[.slice (some ⟨w.heap.size + 1, 0, none⟩) T.nodes.length T.nodes.length] 22) = w3 at *
    have n4 := heap_alloc_new w3 (.cells #[.func (.func 90) #[] #[.pointer (some ⟨w2.heap.size, 0, none⟩), .pointer (some ⟨w.heap.size, 0, none⟩), .pointer (some ⟨w2.heap.size + 1, 0, none⟩)]] 71)
    have hb4 := (Below.refl w3.heap.size w3).alloc (Nat.le_refl _) (.cells #[.func (.func 90) #[] #[.pointer (some ⟨w2.heap.size, 0, none⟩), .pointer (some ⟨w.heap.size, 0, none⟩), .pointer (some ⟨w2.heap.size + 1, 0, none⟩)]] 71)
    rw [s3] at n4
    generalize w3.alloc (.cells #[.func (.func 90) #[] #[.pointer (some ⟨w2.heap.size, 0, none⟩), .pointer (some ⟨w.heap.size, 0, none⟩), .pointer (some ⟨w2.heap.size + 1, 0, none⟩)]] 71) = w4 at *
    have hb24 : Below w2.heap.size w2 w4 := hb3.step hb4
    refine ⟨⟨(hb4.block _ (by omega)).trans n3, T2.below hb24, ?_, n4, by omega, by omega⟩, hb24⟩
    exact HB1.out.below ((hA2.trans (hb24.mono (by omega))).trans (wo_in (by omega)))
  have HX := Lib.hid hX.1; have Hb4 := Lib.hid hX.2
  have Hbx := Lib.hid ((Hb4.out.block w.heap.size (by omega)).trans ((hA2.block _ (heap_lt hn1)).trans hn1))
  have Hs := Lib.hid (show w.heap.size + 1 < w2.heap.size + 1 from by omega)
  have Hb2 := Lib.hid (hA1.trans (hA2.mono (by omega)))
  generalize (w2.alloc (.cells #[.slice (some ⟨w.heap.size + 1, 0, none⟩) T.nodes.length T.nodes.length] 22)).alloc (.cells #[.func (.func 90) #[] #[.pointer (some ⟨w2.heap.size, 0, none⟩), .pointer (some ⟨w.heap.size, 0, none⟩), .pointer (some ⟨w2.heap.size + 1, 0, none⟩)]] 71) = w4 at *
  have Hbb := Lib.hid (show Below w.heap.size w w4 from Hb2.out.trans (Hb4.out.mono (by have := Hs.out; omega)))
  have Hend := Lib.hid (fun (wr : World) (hb : Below w4.heap.size (wo (w.heap.size + 1) w4) (wo (w.heap.size + 1) wr)) => (show Below w.heap.size w wr from Hbb.out.trans (wo_un hb (by omega) Hbb.out.size)))
  clear hX t0 t1 hA1 hn1 hs1 hA2 T2 hs2
  obtain ⟨t0, t1⟩ := cells2 Hbx.out
  generalize w2.heap.size = bs at *
  generalize hba : w.heap.size + 1 = ba at *
  go_wp2
  go_loopw [14] (fun j wr => ∃ (k : Nat) (f' : Nat → Int), j = .int .i64 k ∧ k ≤ T.nodes.length ∧ CX wr T bs ba w.heap.size (bs + 1) f' ∧ Below w4.heap.size (wo ba w4) (wo ba wr) ∧ DfI T f' [] ∧ (∀ j, j < k → (T.node (j : Nat)).bool = true → f' j = 2)) (fun j _ => T.nodes.length - (intOf j).toNat)
  case atStart => exact ⟨0, _, rfl, by omega, HX.out, Below.refl _ _, DfI.start T, fun j h => by omega⟩
  case round =>
    obtain ⟨k, f', rfl, hk, hx, hb, hd, hall⟩ := hrel
    have HXr := Lib.hid hx; have Hbr := Lib.hid hb; have HDr := Lib.hid hd; have Har := Lib.hid hall
    clear hx hb hd hall t0 t1
    by_cases hlt : k < T.nodes.length
    · have g0 : wr.cell? ⟨bs + 1, 0, none⟩ = some (.func (.func 90) #[] #[.pointer (some ⟨bs, 0, none⟩), .pointer (some ⟨w.heap.size, 0, none⟩), .pointer (some ⟨bs + 1, 0, none⟩)]) := by simp [World.cell?, HXr.out.g]
      have Hcall := Lib.hid (walk_any T HK.out bs ba w.heap.size (bs + 1) _ f' [] k wr (Nat.le_refl _) hlt HDr.out (fun q hq => by simp at hq) HXr.out)
      go_wp2_with (go_at_call 90; refine Hcall.out.mono ?_; rintro e w6 ⟨b, f6, rfl, hx6, hb6, ht6, hf6⟩; have HX6 := Lib.hid hx6; have Hb6 := Lib.hid (show Below w4.heap.size (wo ba w4) (wo ba w6) from Hbr.out.trans (hb6.mono (by have := Hbr.out.size; rwa [wo_size, wo_size] at this))); have Ht6 := Lib.hid ht6; have Hf6 := Lib.hid hf6; clear hx6 hb6 ht6 hf6; cases b)
      · go_ret
        have hno : decide (Ctr T) = false := decide_eq_false (Hf6.out (by trivial))
        rw [hno]
        exact ⟨rfl, Hend.out _ Hb6.out⟩
      · obtain ⟨hd6, hm6, hk6⟩ := Ht6.out (by trivial)
        refine ⟨⟨k + 1, f6, by go_num, by omega, HX6.out, Hb6.out, hd6, fun j hj hbj => ?_⟩, by simp [intOf]; omega⟩
        rcases Nat.lt_succ_iff_lt_or_eq.1 hj with g | rfl
        · have e1 := Har.out j g hbj
          have hj2 : j < T.len := by show j < T.nodes.length; omega
          rw [hm6 j hj2 (by omega), e1]
        · exact hk6 hbj
    · obtain rfl : k = T.nodes.length := by omega
      go_wp2
      go_ret
      have hyes : decide (Ctr T) = true := decide_eq_true (HDr.out.done HK.out fun i hi hb => Har.out i hi hb)
      rw [hyes]
      exact ⟨rfl, Hend.out _ Hbr.out⟩
end Go.Proofs.YtjgldaaofdpcgaaGreat
