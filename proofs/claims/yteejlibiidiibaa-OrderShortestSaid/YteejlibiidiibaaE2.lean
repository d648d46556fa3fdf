/-
  Walks: Reach's closure.
-/
import Derived.Test.YteejlibiidiibaaE1
namespace Go.Proofs.Yteejlibiidiibaa
open Go.RowKit
set_option maxRecDepth 100000
def stepW (n : Nat) (s : (Nat → Bool) × List Int) (x : Int) : (Nat → Bool) × List Int := if nodeB n x && !s.1 x.toNat then (setM s.1 x.toNat, s.2 ++ [x]) else s
/-- The marks and the work behind a list's nodes. -/
def addW (n : Nat) (s : (Nat → Bool) × List Int) (F : List Int) : (Nat → Bool) × List Int := F.foldl (stepW n) s
theorem addW_snoc (n : Nat) (s : (Nat → Bool) × List Int) (F : List Int) (x : Int) : addW n s (F ++ [x]) = stepW n (addW n s F) x := by
  unfold addW; rw [List.foldl_append]; rfl
theorem addW_take {n : Nat} {s : (Nat → Bool) × List Int} {F : List Int} {k : Nat} (h : k < F.length) : addW n s (F.take (k + 1)) = stepW n (addW n s (F.take k)) F[k] := by
  rw [List.take_succ_eq_append_getElem h, addW_snoc]
theorem cnt_set {n k : Nat} {f : Nat → Bool} (hk : k < n) (hf : f k = false) : cnt n f + 1 ≤ cnt n (setM f k) :=
  cnt_lt (fun i _ h => setM_keep h) ⟨k, hk, hf, by simp [setM]⟩
theorem stepW_cnt {n : Nat} {s : (Nat → Bool) × List Int} {x : Int} (h : s.2.length ≤ cnt n s.1) : (stepW n s x).2.length ≤ cnt n (stepW n s x).1 := by
  unfold stepW
  split
  · rename_i hc
    rw [Bool.and_eq_true] at hc
    obtain ⟨h1, h2⟩ := nodeB_iff.1 hc.1
    have h3 : s.1 x.toNat = false := by simpa using hc.2
    have := cnt_set (n := n) (k := x.toNat) (by omega) h3
    simp; omega
  · exact h
theorem addW_cnt {n : Nat} : ∀ {F : List Int} {s : (Nat → Bool) × List Int}, s.2.length ≤ cnt n s.1 → (addW n s F).2.length ≤ cnt n (addW n s F).1
  | [], _, h => h
  | x :: F, s, h => by
    show (addW n (stepW n s x) F).2.length ≤ cnt n (addW n (stepW n s x) F).1
    exact addW_cnt (stepW_cnt h)

/-- What Reach keeps: h is the block of the graph, h + 1 the marks, h + 2 and h + 3 the slices. -/
structure RS (h : Nat) (p : Option Addr) (n c : Nat) (s : (Nat → Bool) × List Int) (v : Value) (w : World) : Prop where
  e : w.heap[h]? = some (.cells #[.slice p n c] 23)
  t : BT w (h + 1) n s.1
  sl : w.heap[h + 2]? = some (.cells #[.slice (some ⟨h + 1, 0, none⟩) n n] 46)
  k : w.heap[h + 3]? = some (.cells #[v] 22)
  own : w.ownsRow (h + 4) 3 1 v s.2.length (ic s.2)
  cnt : s.2.length ≤ cnt n s.1
theorem one_cell {w : World} {b : Nat} {v : Value} {t : TypeId} (h : w.heap[b]? = some (.cells #[v] t)) : w.cell? ⟨b, 0, none⟩ = some v := by simp [World.cell?, h]
theorem one_free {w : World} {b : Nat} {v : Value} {t : TypeId} (h : w.heap[b]? = some (.cells #[v] t)) (i : Nat) : w.frozen? ⟨b, i, none⟩ = false := by simp [World.frozen?, h]
theorem one_set {w : World} {b : Nat} {v u : Value} {t : TypeId} (h : w.heap[b]? = some (.cells #[v] t)) : Upd b (.cells #[u] t) w (w.setCell ⟨b, 0, none⟩ u) := Upd.set (i := 0) (v := u) (Upd.refl h)
theorem RS.mark {h : Nat} {p : Option Addr} {n c : Nat} {s : (Nat → Bool) × List Int} {v : Value} {w : World} (H : RS h p n c s v w) {k : Nat} (hk : k < n) :
    RS h p n c (setM s.1 k, s.2) v (w.setCell ⟨h + 1, k, none⟩ (.bool true)) ∧ Below h w (w.setCell ⟨h + 1, k, none⟩ (.bool true)) := by
  obtain ⟨h1, o, hu⟩ := H.t.setM hk
  exact ⟨⟨(hu.other _ (by omega)).trans H.e, h1, (hu.other _ (by omega)).trans H.sl, (hu.other _ (by omega)).trans H.k, ownsRow_at H.own fun g hg => hu.other _ (by have := (H.own.lt g hg).1; omega), Nat.le_trans H.cnt (cnt_mono fun i _ hi => setM_keep hi)⟩, hu.below (by omega)⟩
theorem RS.append {h : Nat} {p : Option Addr} {n c : Nat} {s : (Nat → Bool) × List Int} {v v' : Value} {w w1 w2 : World} {x : Int} (H : RS h p n c s v w) (h1 : w1 = w.alloc (.cells #[.int .i64 x] 3)) (h2 : Fr [] v v' w1 w2) (h3 : w2.ownsRow (h + 4) 3 1 v' (s.2.length + 1) (ic s.2 ++ ic [x])) (hc : s.2.length + 1 ≤ Yteejlibiidiibaa.cnt n s.1) :
    RS h p n c (s.1, s.2 ++ [x]) v' (w2.setCell ⟨h + 3, 0, none⟩ v') ∧ Below h w (w2.setCell ⟨h + 3, 0, none⟩ v') := by
  have hlt := heap_lt H.k
  have hb1 : Below w.heap.size w w1 := h1 ▸ (Below.refl _ _).alloc (Nat.le_refl _) _
  have hs1 : w.heap.size ≤ w1.heap.size := hb1.size
  have hk : ∀ k, k < h + 4 → w2.heap[k]? = w.heap[k]? := fun k hk =>
    (h2.block k (by omega) (by simp) (fun e => by have := (H.own.lt k e).1; omega)).trans (hb1.block k (by omega))
  have hu : Upd (h + 3) (.cells #[v'] 22) w2 (w2.setCell ⟨h + 3, 0, none⟩ v') := one_set ((hk _ (by omega)).trans H.k)
  refine ⟨⟨(hu.other _ (by omega)).trans ((hk _ (by omega)).trans H.e), ?_, (hu.other _ (by omega)).trans ((hk _ (by omega)).trans H.sl), hu.blk, ?_, by simpa using hc⟩, ?_⟩
  · exact (H.t.at (hk _ (by omega))).at (hu.other _ (by omega))
  · have : w2.ownsRow (h + 4) 3 1 v' (s.2 ++ [x]).length (ic (s.2 ++ [x])) := by
      rw [List.length_append, show ic (s.2 ++ [x]) = ic s.2 ++ ic [x] by simp [ic]]
      exact h3
    exact ownsRow_at this fun g hg => hu.other _ (by have := (this.lt g hg).1; omega)
  · exact ((hb1.mono (by omega)).trans (h2.below (by omega) (by simp) fun g hg => by have := (H.own.lt g hg).1; omega)).trans (hu.below (by omega))
theorem RS.app_cell {h : Nat} {p : Option Addr} {n c : Nat} {s : (Nat → Bool) × List Int} {v v' : Value} {w w1 w2 : World} {x : Int} (H : RS h p n c s v w) (h1 : w1 = w.alloc (.cells #[.int .i64 x] 3)) (h2 : Fr [] v v' w1 w2) : w2.heap[h + 3]? = some (.cells #[v] 22) := by
  have hlt := heap_lt H.k
  have hb1 : Below w.heap.size w w1 := h1 ▸ (Below.refl _ _).alloc (Nat.le_refl _) _
  have hs1 : w.heap.size ≤ w1.heap.size := hb1.size
  exact ((h2.block _ (by omega) (by simp) (fun e => by have := (H.own.lt _ e).1; omega)).trans (hb1.block _ (by omega))).trans H.k
/-- What a call of the closure leaves. -/
def AR (h : Nat) (p : Option Addr) (n c : Nat) (s : (Nat → Bool) × List Int) (w : World) (e : Ending) (w' : World) : Prop := ∃ v, e = .returned (.tuple #[]) ∧ RS h p n c s v w' ∧ Below h w w'
set_option maxHeartbeats 8000000 in
theorem add_any (w0 w : World) (h : Nat) (p : Option Addr) (n c : Nat) (s : (Nat → Bool) × List Int) (v vf : Value) (F : List Int) (H : RS h p n c s v w) (hn : n ≤ 100000) (hF : IS w0 vf F) (hb0 : Below w0.heap.size w0 w) (hh : w0.heap.size ≤ h) (hFl : F.length ≤ 100000) :
    Calls Try.prog 30 #[vf, .pointer (some ⟨h, 0, none⟩), .pointer (some ⟨h + 2, 0, none⟩), .pointer (some ⟨h + 3, 0, none⟩)] w (AR h p n c (addW n s F) w) := by
  obtain ⟨q, cq, rfl, hq, hrc⟩ := hF
  have HF := Lib.hid hrc; have HH := Lib.hid H; have HB := Lib.hid hb0; have Hhh := Lib.hid hh; clear hrc H hb0 hh
  go_enter Try.func30, Try.ntmps30
  go_wp2
  go_loopw [9] (fun i wr => ∃ (k : Nat) (v : Value), i = .int .i64 k ∧ k ≤ F.length ∧ RS h p n c (addW n s (F.take k)) v wr ∧ Below h w wr) (fun i _ => F.length - (intOf i).toNat)
  case atStart => exact ⟨0, v, rfl, by omega, HH.out, Below.refl _ _⟩
  case round =>
    obtain ⟨k, v1, rfl, hk, hR, hb⟩ := hrel
    by_cases hlt : k < F.length
    · obtain ⟨a2, o2, rfl, ha2, z0⟩ := (HF.out.below (HB.out.trans (hb.mono Hhh.out))).at hlt
      have Hst := Lib.hid (addW_take (n := n) (s := s) hlt)
      generalize addW n s (F.take k) = s1 at *
      obtain ⟨f, W⟩ := s1
      generalize F[k] = x at *
      have HR := Lib.hid hR; have Hb := Lib.hid hb
      have ze := one_cell hR.e
      have zs := one_cell hR.sl
      have zk := one_cell hR.k
      clear hR hb
      by_cases hno : nodeB n x = true
      · obtain ⟨hx0, hxn⟩ := nodeB_iff.1 hno
        obtain ⟨xn, rfl⟩ : ∃ xn : Nat, x = (xn : Int) := ⟨x.toNat, by omega⟩
        have hxl : xn < n := by omega
        have z3 := HR.out.t.cell hxl
        have hnode := node_any p n c (xn : Int)
        rw [hno] at hnode
        have Hnode := Lib.hid hnode; clear hnode
        cases hfx : f xn with
        | true =>
          simp only [hfx] at z3
          have Hf := Lib.hid (show stepW n (f, W) (xn : Int) = (f, W) by simp [stepW, hfx])
          clear hfx hno hx0 hxn
          go_wp2_with (go_at_call 23; refine (Hnode.out _).mono ?_; rintro e w' ⟨rfl, rfl⟩)
          exact ⟨⟨k + 1, v1, by go_num, by omega, by rw [Hst.out, Hf.out]; exact HR.out, Hb.out⟩, by simp [intOf]; omega⟩
        | false =>
          simp only [hfx] at z3
          have Hf := Lib.hid (show stepW n (f, W) (xn : Int) = (setM f xn, W ++ [(xn : Int)]) by simp [stepW, hfx, hno])
          have z2 := HR.out.t.free xn
          have Hset := Lib.hid (HR.out.mark hxl)
          have hcn := stepW_cnt (n := n) (s := (f, W)) (x := (xn : Int)) HR.out.cnt
          rw [Hf.out] at hcn
          have hcl := cnt_le n (setM f xn)
          simp only [List.length_append, List.length_singleton] at hcn
          have Hcn := Lib.hid hcn
          have hbd : W.length + 1 ≤ 67108864 := by omega
          clear hfx hno hx0 hxn hcn hcl
          go_upto_region 5 with (go_at_call 23; refine (Hnode.out _).mono ?_; rintro e w' ⟨rfl, rfl⟩)
          generalize wr.setCell ⟨h + 1, xn, none⟩ (.bool true) = w2 at *
          have y3 := one_cell Hset.out.1.k
          have b6 : Below w2.heap.size w2 (w2.alloc (.cells #[.int .i64 xn] 3)) := (Below.refl _ _).alloc (Nat.le_refl _) _
          have n6 := heap_alloc_new w2 (.cells #[.int .i64 xn] 3)
          have H6 := Lib.hid (show w2.alloc (.cells #[.int .i64 xn] 3) = w2.alloc (.cells #[.int .i64 xn] 3) from rfl)
          have Hbz := Lib.hid (show h + 4 ≤ (w2.alloc (.cells #[.int .i64 xn] 3)).heap.size by have := heap_lt Hset.out.1.k; have := b6.size; omega)
          have Ho6 := Lib.hid (ownsRow_below Hset.out.1.own b6 (Nat.le_refl _))
          have Hrc := Lib.hid (show RC (w2.alloc (.cells #[.int .i64 xn] 3)) 1 (some ⟨w2.heap.size, 0, none⟩) 1 (ic [(xn : Int)]) from RC.row rfl n6 (fun j u hu => by simpa [ic] using hu))
          clear b6 n6
          go_wp2_with (at_builtin; go_loud (refine wpList_append_ownrc rfl (.tmp 26) (.tmp 28) 22 rfl 3 (by kernel_rfl) int_info rfl (by decide) (by decide) (h + 4) _ (some ⟨w2.heap.size, 0, none⟩) W.length 1 1 _ (ic [(xn : Int)]) Hbz.out v1 rfl rfl Ho6.out Hrc.out (ic_one _) hbd ?_); intro v3 w3 ho3 hf3; obtain ⟨p3, c3, rfl⟩ := own_slice ho3; have HA := Lib.hid (Hset.out.1.append H6.out hf3 ho3 Hcn.out); have y4 := one_free (Hset.out.1.app_cell H6.out hf3) 0; have y5 := one_cell (Hset.out.1.app_cell H6.out hf3); clear ho3 hf3)
          exact ⟨⟨k + 1, _, by go_num, by omega, by rw [Hst.out, Hf.out]; exact HA.out.1, (Hb.out.trans Hset.out.2).trans HA.out.2⟩, by simp [intOf]; omega⟩
      · have hno' : nodeB n x = false := by simpa using hno
        have Hf := Lib.hid (show stepW n (f, W) x = (f, W) by simp [stepW, hno'])
        have hnode := node_any p n c x
        rw [hno'] at hnode
        have Hnode := Lib.hid hnode; clear hnode hno hno'
        go_wp2_with (go_at_call 23; refine (Hnode.out _).mono ?_; rintro e w' ⟨rfl, rfl⟩)
        exact ⟨⟨k + 1, v1, by go_num, by omega, by rw [Hst.out, Hf.out]; exact HR.out, Hb.out⟩, by simp [intOf]; omega⟩
    · obtain rfl : k = F.length := by omega
      rw [List.take_length] at hR
      have HR := Lib.hid hR; have Hb := Lib.hid hb; clear hR hb
      go_wp2
      go_end0
      exact ⟨v1, rfl, HR.out, Hb.out⟩
end Go.Proofs.Yteejlibiidiibaa
