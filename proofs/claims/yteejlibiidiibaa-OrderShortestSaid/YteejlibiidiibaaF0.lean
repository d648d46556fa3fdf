/-
  The finder in the heap.
-/
import Derived.Test.YteejlibiidiibaaT3
import Derived.Test.YteejlibiidiibaaE3
namespace Go.Proofs.Yteejlibiidiibaa
open Go.RowKit
set_option maxRecDepth 100000
/-- A block of n numbers. -/
structure IT (w : World) (b n : Nat) (f : Nat → Int) : Prop where
  ex : ∃ tc : Array Value, w.heap[b]? = some (.cells tc 3) ∧ ∀ m, m < n → tc[m]? = some (.int .i64 (f m))
theorem IT.cell {w : World} {b n : Nat} {f : Nat → Int} (h : IT w b n f) {m : Nat} (hm : m < n) : w.cell? ⟨b, m, none⟩ = some (.int .i64 (f m)) := by
  obtain ⟨tc, h1, h2⟩ := h.ex
  simp [World.cell?, h1, h2 m hm]
theorem IT.at {w w' : World} {b n : Nat} {f : Nat → Int} (h : IT w b n f) (e : w'.heap[b]? = w.heap[b]?) : IT w' b n f := by
  obtain ⟨tc, h1, h2⟩ := h.ex
  exact ⟨tc, e.trans h1, h2⟩
theorem IT.lt {w : World} {b n : Nat} {f : Nat → Int} (h : IT w b n f) : b < w.heap.size := by
  obtain ⟨tc, h1, h2⟩ := h.ex
  exact heap_lt h1
theorem IT.below {w w' : World} {b n : Nat} {f : Nat → Int} (h : IT w b n f) (hb : Below w.heap.size w w') : IT w' b n f := h.at (hb.block _ h.lt)
theorem IT.free {w : World} {b n : Nat} {f : Nat → Int} (h : IT w b n f) (i : Nat) : w.frozen? ⟨b, i, none⟩ = false := by
  obtain ⟨tc, h1, h2⟩ := h.ex
  simp [World.frozen?, h1]
theorem IT.congr {w : World} {b n : Nat} {f g : Nat → Int} (h : IT w b n f) (e : ∀ m, m < n → g m = f m) : IT w b n g := by
  obtain ⟨tc, h1, h2⟩ := h.ex
  exact ⟨tc, h1, fun m hm => by rw [e m hm]; exact h2 m hm⟩
theorem IT.ty {w : World} {b n : Nat} {f : Nat → Int} (h : IT w b n f) : ∃ tc, w.heap[b]? = some (.cells tc 3) := by
  obtain ⟨tc, h1, _⟩ := h.ex; exact ⟨tc, h1⟩
theorem IT.set {w : World} {b n : Nat} {f : Nat → Int} (h : IT w b n f) {k : Nat} (hk : k < n) (x : Int) : IT (w.setCell ⟨b, k, none⟩ (.int .i64 x)) b n (fun m => if m = k then x else f m) ∧ Tch b w (w.setCell ⟨b, k, none⟩ (.int .i64 x)) := by
  obtain ⟨tc, h1, h2⟩ := h.ex
  have hU := Upd.set (i := k) (v := .int .i64 x) (Upd.refl h1)
  refine ⟨⟨_, hU.blk, fun m hm => ?_⟩, _, hU⟩
  have hl : k < tc.size := by
    have := h2 k hk
    exact (Array.getElem?_eq_some_iff.1 this).1
  rw [Array.getElem?_setIfInBounds]
  by_cases e : k = m
  · subst e; simp [hl]
  · rw [if_neg e, if_neg (fun e2 => e e2.symm)]; exact h2 m hm
theorem IT.made (w : World) (n : Nat) : IT (w.alloc (.cells (madeCells #[.int .i64 0] n) 3)) w.heap.size n fun _ => 0 := by
  refine ⟨_, heap_alloc_new w _, fun m hm => ?_⟩
  simp [madeCells, hm, Nat.mod_one]

structure FP where
  p : Option Addr
  n : Nat
  cp : Nat
  H : Nat
  B : Nat
  fb : Nat
  nb : Nat
  lb : Nat
  ob : Nat
  cb : Nat
structure FP.Ok (c : FP) : Prop where
  hn : c.n ≤ 100000
  rfb : c.H ≤ c.fb ∧ c.fb < c.B
  rnb : c.H ≤ c.nb ∧ c.nb < c.B
  rlb : c.H ≤ c.lb ∧ c.lb < c.B
  rob : c.H ≤ c.ob ∧ c.ob < c.B
  rcb : c.H ≤ c.cb ∧ c.cb < c.B
  d1 : c.fb ≠ c.nb ∧ c.fb ≠ c.lb ∧ c.fb ≠ c.ob ∧ c.fb ≠ c.cb
  d2 : c.nb ≠ c.lb ∧ c.nb ≠ c.ob ∧ c.nb ≠ c.cb
  d3 : c.lb ≠ c.ob ∧ c.lb ≠ c.cb ∧ c.ob ≠ c.cb
def nI (f : Nat → Nat) : Nat → Int := fun m => (f m : Int)
theorem nI_up (f : Nat → Nat) (k x m : Nat) : nI (upN f k x) m = if m = k then (x : Int) else nI f m := by
  unfold nI upN
  by_cases e : m = k
  · rw [if_pos e, if_pos e]
  · rw [if_neg e, if_neg e]
/-- The groups' values. -/
def GC (c : FP) (gr : List (List Int)) (gs : List Value) (ov : Value) (w : World) : Prop :=
  ∀ (g : Nat) (G : List Int), gr[g]? = some G → ∃ (a o cc : Nat) (arr : Array Value), gs[g]? = some (.slice (some ⟨a, o, none⟩) G.length cc) ∧ G.length ≤ cc ∧ c.B ≤ a ∧ ov.ownBlock ≠ some a ∧
    w.heap[a]? = some (.cells arr 3) ∧ ∀ (j : Nat) (u : Value), (ic G)[j]? = some u → arr[o + j]? = some u
def GV (c : FP) (gr : List (List Int)) (ov gv : Value) (w : World) : Prop := ∃ gs, w.ownsRow c.B 22 1 gv gr.length gs ∧ GC c gr gs ov w
structure FM (c : FP) (s : TS) (ov gv : Value) (w : World) : Prop where
  ok : c.Ok
  sz : c.B ≤ w.heap.size
  blk : w.heap[c.fb]? = some (.cells #[.slice c.p c.n c.cp, .slice (some ⟨c.nb, 0, none⟩) c.n c.n, .slice (some ⟨c.lb, 0, none⟩) c.n c.n, .slice (some ⟨c.ob, 0, none⟩) c.n c.n, ov, gv] 57)
  num : IT w c.nb c.n (nI s.num)
  low : IT w c.lb c.n (nI s.low)
  of : IT w c.ob c.n s.of
  cnt : w.heap[c.cb]? = some (.cells #[.int .i64 s.cnt] 3)
  own : w.ownsRow c.B 3 1 ov s.op.length (ic s.op)
  grp : GV c s.gr ov gv w

theorem GV.move {c : FP} {gr : List (List Int)} {ov ov' gv : Value} {w w' : World} (h : GV c gr ov gv w) (hb : ∀ (k : Nat) (arr : Array Value) (t : TypeId), w.heap[k]? = some (.cells arr t) → c.B ≤ k → (t = 22 ∨ ov.ownBlock ≠ some k) → w'.heap[k]? = w.heap[k]?)
    (ho : ∀ a, a < w.heap.size → ov.ownBlock ≠ some a → ov'.ownBlock ≠ some a) : GV c gr ov' gv w' := by
  obtain ⟨gs, h1, h2⟩ := h
  refine ⟨gs, ?_, fun g G hg => ?_⟩
  · refine ⟨h1.1, ?_⟩
    rcases h1.2 with h3 | ⟨g, cap, cur, rfl, h4, h5, h6⟩
    · exact .inl h3
    · exact .inr ⟨g, cap, cur, rfl, h4, (hb g cur 22 h5 h4 (.inl rfl)).trans h5, h6⟩
  · obtain ⟨a, o, cc, arr, q1, q2, q3, q4, q5, q6⟩ := h2 g G hg
    exact ⟨a, o, cc, arr, q1, q2, q3, ho a (heap_lt q5) q4, (hb a arr 3 q5 q3 (.inr q4)).trans q5, q6⟩
theorem FM.other {c : FP} {s : TS} {ov gv : Value} {w w' : World} (h : FM c s ov gv w) (b : Nat) (hb : b < c.B) (e : ∀ k, k ≠ b → w'.heap[k]? = w.heap[k]?) : w'.ownsRow c.B 3 1 ov s.op.length (ic s.op) ∧ GV c s.gr ov gv w' :=
  ⟨ownsRow_at h.own fun g hg => e g (by have := (h.own.lt g hg).1; omega), h.grp.move (fun k arr t hk hB _ => e k (by omega)) fun _ _ h => h⟩
theorem FM.setNum {c : FP} {s : TS} {ov gv : Value} {w : World} (h : FM c s ov gv w) {k : Nat} (hk : k < c.n) (x : Nat) :
    FM c { s with num := upN s.num k x } ov gv (w.setCell ⟨c.nb, k, none⟩ (.int .i64 x)) ∧ Tch c.nb w (w.setCell ⟨c.nb, k, none⟩ (.int .i64 x)) := by
  obtain ⟨h1, o, hu⟩ := h.num.set hk x
  obtain ⟨h2, h3⟩ := h.other c.nb h.ok.rnb.2 hu.other
  refine ⟨⟨h.ok, by rw [hu.size]; exact h.sz, (hu.other _ h.ok.d1.1).trans h.blk, h1.congr fun m _ => ?_, h.low.at (hu.other _ (Ne.symm h.ok.d2.1)), h.of.at (hu.other _ (Ne.symm h.ok.d2.2.1)), (hu.other _ (Ne.symm h.ok.d2.2.2)).trans h.cnt, h2, h3⟩, o, hu⟩
  exact nI_up _ _ _ _
theorem FM.setLow {c : FP} {s : TS} {ov gv : Value} {w : World} (h : FM c s ov gv w) {k : Nat} (hk : k < c.n) (x : Nat) :
    FM c { s with low := upN s.low k x } ov gv (w.setCell ⟨c.lb, k, none⟩ (.int .i64 x)) ∧ Tch c.lb w (w.setCell ⟨c.lb, k, none⟩ (.int .i64 x)) := by
  obtain ⟨h1, o, hu⟩ := h.low.set hk x
  obtain ⟨h2, h3⟩ := h.other c.lb h.ok.rlb.2 hu.other
  refine ⟨⟨h.ok, by rw [hu.size]; exact h.sz, (hu.other _ h.ok.d1.2.1).trans h.blk, h.num.at (hu.other _ h.ok.d2.1), h1.congr fun m _ => ?_, h.of.at (hu.other _ (Ne.symm h.ok.d3.1)), (hu.other _ (Ne.symm h.ok.d3.2.1)).trans h.cnt, h2, h3⟩, o, hu⟩
  exact nI_up _ _ _ _
theorem FM.setOf {c : FP} {s : TS} {ov gv : Value} {w : World} (h : FM c s ov gv w) {k : Nat} (hk : k < c.n) (x : Int) :
    FM c { s with of := fun m => if m = k then x else s.of m } ov gv (w.setCell ⟨c.ob, k, none⟩ (.int .i64 x)) ∧ Tch c.ob w (w.setCell ⟨c.ob, k, none⟩ (.int .i64 x)) := by
  obtain ⟨h1, o, hu⟩ := h.of.set hk x
  obtain ⟨h2, h3⟩ := h.other c.ob h.ok.rob.2 hu.other
  exact ⟨⟨h.ok, by rw [hu.size]; exact h.sz, (hu.other _ h.ok.d1.2.2.1).trans h.blk, h.num.at (hu.other _ h.ok.d2.2.1), h.low.at (hu.other _ h.ok.d3.1), h1, (hu.other _ (Ne.symm h.ok.d3.2.2)).trans h.cnt, h2, h3⟩, o, hu⟩
theorem FM.setCnt {c : FP} {s : TS} {ov gv : Value} {w : World} (h : FM c s ov gv w) (x : Nat) :
    FM c { s with cnt := x } ov gv (w.setCell ⟨c.cb, 0, none⟩ (.int .i64 x)) ∧ Tch c.cb w (w.setCell ⟨c.cb, 0, none⟩ (.int .i64 x)) := by
  have hu : Upd c.cb (.cells #[.int .i64 x] 3) w (w.setCell ⟨c.cb, 0, none⟩ (.int .i64 x)) := one_set h.cnt
  obtain ⟨h2, h3⟩ := h.other c.cb h.ok.rcb.2 hu.other
  exact ⟨⟨h.ok, by rw [hu.size]; exact h.sz, (hu.other _ h.ok.d1.2.2.2).trans h.blk, h.num.at (hu.other _ h.ok.d2.2.2), h.low.at (hu.other _ h.ok.d3.2.1), h.of.at (hu.other _ h.ok.d3.2.2), hu.blk, h2, h3⟩, _, hu⟩
/-- What the walks keep: all blocks below H, and whatever is no row of numbers or of groups. -/
structure KP (c : FP) (w w' : World) : Prop where
  below : Below c.H w w'
  keep : ∀ (k : Nat) (arr : Array Value) (t : TypeId), w.heap[k]? = some (.cells arr t) → k ≠ c.fb → t ≠ 3 → t ≠ 22 → w'.heap[k]? = w.heap[k]?
theorem KP.refl (c : FP) (w : World) : KP c w w := ⟨Below.refl _ _, fun _ _ _ _ _ _ _ => rfl⟩
theorem KP.trans {c : FP} {w w1 w2 : World} (h : KP c w w1) (k : KP c w1 w2) : KP c w w2 :=
  ⟨h.below.trans k.below, fun b arr t hb h1 h2 h3 => (k.keep b arr t ((h.keep b arr t hb h1 h2 h3).trans hb) h1 h2 h3).trans (h.keep b arr t hb h1 h2 h3)⟩
theorem KP.of_tch {c : FP} {w w' : World} {b : Nat} (hB : c.H ≤ b) (h : Tch b w w') (ht : b = c.fb ∨ ∃ tc t, w.heap[b]? = some (.cells tc t) ∧ (t = 3 ∨ t = 22)) : KP c w w' := by
  refine ⟨h.below hB, fun k arr t hk h1 h2 h3 => ?_⟩
  obtain ⟨o, hu⟩ := h
  refine hu.other k fun e => ?_
  subst e
  rcases ht with e | ⟨tc, t', h4, h5⟩
  · exact h1 e
  · rw [hk] at h4; cases h4
    rcases h5 with rfl | rfl
    · exact h2 rfl
    · exact h3 rfl
theorem KP.of_below {c : FP} {w w' : World} (h : Below w.heap.size w w') (hH : c.H ≤ w.heap.size) : KP c w w' := ⟨h.mono hH, fun k _ _ hk _ _ _ => h.block k (heap_lt hk)⟩
theorem KP.of_fr {c : FP} {w w' : World} {v v' : Value} (h : Fr [] v v' w w') (hB : c.H ≤ w.heap.size) (hv : ∀ g, v.ownBlock = some g → c.H ≤ g ∧ ∃ tc t, w.heap[g]? = some (.cells tc t) ∧ (t = 3 ∨ t = 22)) : KP c w w' :=
  ⟨h.below hB (by simp) fun g hg => (hv g hg).1, fun k arr t hk h1 h2 h3 => h.block k (heap_lt hk) (by simp) fun e => by
    obtain ⟨_, tc, t', h4, h5⟩ := hv k e
    rw [hk] at h4; cases h4
    rcases h5 with rfl | rfl
    · exact h2 rfl
    · exact h3 rfl⟩
theorem KP.drew {c : FP} {w w' : World} (h : KP c w w') : KP c w w'.drew := ⟨h.below.drew, h.keep⟩
theorem own_ty {w : World} {B n size : Nat} {e : TypeId} {v : Value} {xs : List Value} (h : w.ownsRow B e size v n xs) {g : Nat} (hg : v.ownBlock = some g) : B ≤ g ∧ ∃ tc, w.heap[g]? = some (.cells tc e) := by
  refine ⟨(h.lt g hg).1, ?_⟩
  rcases h.2 with ⟨rfl, _⟩ | ⟨g', cap, cur, rfl, _, h5, _⟩
  · cases hg
  · cases hg; exact ⟨cur, h5⟩
theorem FM.drew {c : FP} {s : TS} {ov gv : Value} {w : World} (h : FM c s ov gv w) : FM c s ov gv w.drew := ⟨h.ok, h.sz, h.blk, h.num.at rfl, h.low.at rfl, h.of.at rfl, h.cnt, ownsRow_at h.own fun _ _ => rfl, h.grp.move (fun _ _ _ _ _ _ => rfl) fun _ _ h => h⟩
/-- New blocks only. -/
theorem FM.grow {c : FP} {s : TS} {ov gv : Value} {w w' : World} (h : FM c s ov gv w) (hb : Below w.heap.size w w') : FM c s ov gv w' := by
  have e : ∀ (k : Nat) (o : Obj), w.heap[k]? = some o → w'.heap[k]? = w.heap[k]? := fun k o hk => hb.block k (heap_lt hk)
  exact ⟨h.ok, Nat.le_trans h.sz hb.size, (e _ _ h.blk).trans h.blk, h.num.below hb, h.low.below hb, h.of.below hb, (e _ _ h.cnt).trans h.cnt, ownsRow_below h.own hb (Nat.le_refl _), h.grp.move (fun k _ _ hk _ _ => e k _ hk) fun _ _ h => h⟩
/-- A block that is none of the finder's has turned. -/
theorem FM.far {c : FP} {s : TS} {ov gv : Value} {w w' : World} {b : Nat} {tc : Array Value} {t : TypeId} (h : FM c s ov gv w) (hb : w.heap[b]? = some (.cells tc t)) (h1 : t ≠ 3) (h2 : t ≠ 22) (h3 : t ≠ 57) (hu : Tch b w w') : FM c s ov gv w' := by
  obtain ⟨o, hu⟩ := hu
  have e : ∀ (k : Nat) (arr : Array Value) (t' : TypeId), w.heap[k]? = some (.cells arr t') → t' = 3 ∨ t' = 22 ∨ t' = 57 → w'.heap[k]? = w.heap[k]? := fun k arr t' hk ht => hu.other k fun e => by
    subst e; rw [hb] at hk; cases hk
    rcases ht with rfl | rfl | rfl
    · exact h1 rfl
    · exact h2 rfl
    · exact h3 rfl
  refine ⟨h.ok, by rw [hu.size]; exact h.sz, (e _ _ _ h.blk (by simp)).trans h.blk, ?_, ?_, ?_, (e _ _ _ h.cnt (by simp)).trans h.cnt, ownsRow_at h.own fun g hg => ?_, ?_⟩
  · obtain ⟨tc, h4⟩ := h.num.ty; exact h.num.at (e _ _ _ h4 (by simp))
  · obtain ⟨tc, h4⟩ := h.low.ty; exact h.low.at (e _ _ _ h4 (by simp))
  · obtain ⟨tc, h4⟩ := h.of.ty; exact h.of.at (e _ _ _ h4 (by simp))
  · obtain ⟨_, tc, h4⟩ := own_ty h.own hg; exact e _ _ _ h4 (by simp)
  · obtain ⟨gs, g1, g2⟩ := h.grp
    refine ⟨gs, ownsRow_at g1 fun g hg => ?_, fun g G hg => ?_⟩
    · obtain ⟨_, tc, h4⟩ := own_ty g1 hg; exact e _ _ _ h4 (by simp)
    · obtain ⟨a, o, cc, arr, q1, q2, q3, q4, q5, q6⟩ := g2 g G hg
      exact ⟨a, o, cc, arr, q1, q2, q3, q4, (e _ _ _ q5 (by simp)).trans q5, q6⟩
end Go.Proofs.Yteejlibiidiibaa
