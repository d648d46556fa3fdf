/-
  Walks: the reference's marks.
-/
import Derived.Test.YteejlibiidiibaaA1
namespace Go.Proofs.Yteejlibiidiibaa
open Go.RowKit
set_option maxRecDepth 100000
/-- Block b alone has turned. -/
def Tch (b : Nat) (w w' : World) : Prop := ∃ o, Upd b o w w'
theorem Tch.below {b B : Nat} {w w' : World} (h : Tch b w w') (hB : B ≤ b) : Below B w w' := by obtain ⟨o, h⟩ := h; exact h.below hB
theorem Tch.trans {b : Nat} {w w1 w2 : World} (h : Tch b w w1) (k : Tch b w1 w2) : Tch b w w2 := by
  obtain ⟨o, h⟩ := h; obtain ⟨o2, k⟩ := k; exact ⟨o2, h.trans k⟩
theorem Tch.size {b : Nat} {w w' : World} (h : Tch b w w') : w'.heap.size = w.heap.size := by obtain ⟨o, h⟩ := h; exact h.size
theorem BT.tch {w : World} {b n : Nat} {f : Nat → Bool} (h : BT w b n f) : Tch b w w := by
  obtain ⟨tc, h1, h2⟩ := h.ex
  exact ⟨_, Upd.refl h1⟩
theorem BT.setM {w : World} {b n : Nat} {f : Nat → Bool} (h : BT w b n f) {k : Nat} (hk : k < n) : BT (w.setCell ⟨b, k, none⟩ (.bool true)) b n (setM f k) ∧ Tch b w (w.setCell ⟨b, k, none⟩ (.bool true)) := by
  obtain ⟨h1, h2⟩ := h.set hk true
  exact ⟨h1, _, h2⟩
theorem stepM_yes {n i : Nat} {f : Nat → Bool} {x : Int} (h : f i = true) (hx : nodeB n x = true) : stepM n i f x = setM f x.toNat := by unfold stepM; rw [h, hx]; rfl
theorem stepM_no1 {n i : Nat} {f : Nat → Bool} {x : Int} (h : f i = false) : stepM n i f x = f := by unfold stepM; rw [h]; rfl
theorem stepM_no2 {n i : Nat} {f : Nat → Bool} {x : Int} (h : nodeB n x = false) : stepM n i f x = f := by unfold stepM; rw [h]; simp
theorem rowM_take {n i : Nat} {f : Nat → Bool} {l : List Int} {k : Nat} (h : k < l.length) : rowM n i f (l.take (k + 1)) = stepM n i (rowM n i f (l.take k)) l[k] := by
  rw [List.take_succ_eq_append_getElem h, rowM_snoc]
theorem getD_at {E : Gr} {k : Nat} (h : k < E.length) : E.getD k [] = E[k] := by simp [h]

theorem RC.at {w : World} {q : Option Addr} {n : Nat} {L : List Int} (h : RC w 1 q n (ic L)) {m : Nat} (hm : m < L.length) : ∃ a o, q = some ⟨a, o, none⟩ ∧ a < w.heap.size ∧ w.cell? ⟨a, o + m, none⟩ = some (.int .i64 L[m]) := by
  have hl := h.1
  rw [ic_len] at hl
  obtain ⟨a, o, h1, h2, h3⟩ := h.2 (by omega)
  exact ⟨a, o, h1, h2, h3 m _ (by simp [ic, hm])⟩
theorem GS.row {w0 : World} {p : Option Addr} {n : Nat} {E : Gr} (h : GS w0 p n E) {k : Nat} (hk : k < E.length) : ∃ a o q cq, p = some ⟨a, o, none⟩ ∧ a < w0.heap.size ∧ E[k].length ≤ cq ∧
    (∀ w', Below w0.heap.size w0 w' → w'.cell? ⟨a, o + k, none⟩ = some (.slice q E[k].length cq)) ∧ (∀ w', Below w0.heap.size w0 w' → RC w' 1 q E[k].length (ic E[k])) := by
  obtain ⟨a, o, v, hp, ha, hc, hv⟩ := h.at' k hk
  obtain ⟨q, cq, rfl, hq, hrc⟩ := hv
  exact ⟨a, o, q, cq, hp, ha, hq, fun w' hb => (hb.cell (p := ⟨a, _, none⟩) ha).trans hc, fun w' hb => hrc.below hb⟩

theorem preM_at {E : Gr} {n k : Nat} {f : Nat → Bool} (hn : n = E.length) (hk : k < E.length) : preM E f (k + 1) = rowM n k (preM E f k) E[k] := by
  subst hn
  rw [preM_succ, getD_at hk]
/-- How marks ends. -/
def MR (E : Gr) (b n c : Nat) (f : Nat → Bool) (w : World) (e : Ending) (w' : World) : Prop := e = .returned (.slice (some ⟨b, 0, none⟩) n c) ∧ BT w' b n (iterM E f (n + 1)) ∧ Tch b w w'
/-- The small graphs. -/
structure SmallG (E : Gr) : Prop where
  nodes : E.length ≤ 100000
  rows : ∀ l ∈ E, l.length ≤ 100000
  wf : ∀ l ∈ E, ∀ x ∈ l, (Lit.int .i64 x).wf = true
theorem SmallG.row {E : Gr} (h : SmallG E) (k : Nat) (hk : k < E.length) : E[k].length ≤ 100000 := h.rows _ (List.getElem_mem hk)
set_option maxHeartbeats 8000000 in
theorem marks_any (w0 w : World) (p : Option Addr) (n c b cc : Nat) (E : Gr) (f : Nat → Bool) (h : GS w0 p n E) (hs : SmallG E) (hb : Below w0.heap.size w0 w) (hbb : w0.heap.size ≤ b) (hT : BT w b n f) :
    Calls Try.prog 32 #[.slice p n c, .slice (some ⟨b, 0, none⟩) n cc] w (MR E b n cc f w) := by
  have hn : n ≤ 100000 := by rw [h.len]; exact hs.nodes
  have Hn := Lib.hid h.len
  have H := Lib.hid h; have HB := Lib.hid hb; have HBB := Lib.hid hbb; have HT := Lib.hid hT; have HS := Lib.hid hs
  clear h hb hbb hT hs
  go_enter Try.func32, Try.ntmps32
  go_wp2
  go_loopw [5] (fun r wr => ∃ k : Nat, r = .int .i64 k ∧ k ≤ n + 1 ∧ BT wr b n (iterM E f k) ∧ Tch b w wr) (fun r _ => n + 1 - (intOf r).toNat)
  case atStart => exact ⟨0, rfl, by omega, HT.out, HT.out.tch⟩
  case round =>
    obtain ⟨r, rfl, hr, ht, hu⟩ := hrel
    have Ht := Lib.hid ht; have Hu := Lib.hid hu; clear ht hu
    by_cases hlt : r ≤ n
    · obtain ⟨wo, rfl⟩ : ∃ wo : World, wo = wr := ⟨_, rfl⟩
      go_wp2
      go_loopw [18] (fun i wr => ∃ k : Nat, i = .int .i64 k ∧ k ≤ n ∧ BT wr b n (preM E (iterM E f r) k) ∧ Tch b w wr) (fun i _ => n - (intOf i).toNat)
      case atStart => exact ⟨0, rfl, by omega, Ht.out, Hu.out⟩
      case round =>
        obtain ⟨k, rfl, hk, ht2, hu2⟩ := hrel
        have Ht2 := Lib.hid ht2; have Hu2 := Lib.hid hu2; clear ht2 hu2
        by_cases hlk : k < n
        · obtain ⟨wm, rfl⟩ : ∃ wm : World, wm = wr := ⟨_, rfl⟩
          obtain ⟨a, o, q, cq, rfl, ha, hq, hcell, hrc⟩ := H.out.row (k := k) (by rw [← Hn.out]; exact hlk)
          have hrow : E[k].length ≤ 100000 := HS.out.row k _
          have c0 := hcell wm (HB.out.trans (Hu2.out.below HBB.out))
          have Hrc := Lib.hid hrc
          have Hps := Lib.hid (show preM E (iterM E f r) (k + 1) = rowM n k (preM E (iterM E f r) k) E[k] from preM_at Hn.out _)
          generalize E[k] = L at *
          clear hrc hcell
          go_wp2
          go_loopw [25] (fun j wr => ∃ m : Nat, j = .int .i64 m ∧ m ≤ L.length ∧ BT wr b n (rowM n k (preM E (iterM E f r) k) (L.take m)) ∧ Tch b w wr) (fun j _ => L.length - (intOf j).toNat)
          case atStart => exact ⟨0, rfl, by omega, Ht2.out, Hu2.out⟩
          case round =>
            obtain ⟨m, rfl, hm, ht3, hu3⟩ := hrel
            by_cases hlm : m < L.length
            · obtain ⟨a2, o2, rfl, ha2, z0⟩ := (Hrc.out wr (HB.out.trans (hu3.below HBB.out))).at hlm
              have z1 := ht3.cell hlk
              have Hst := Lib.hid (rowM_take (n := n) (i := k) (f := preM E (iterM E f r) k) hlm)
              generalize hg : rowM n k (preM E (iterM E f r) k) (L.take m) = g at *
              generalize L[m] = x at *
              have Ht3 := Lib.hid ht3; have Hu3 := Lib.hid hu3; clear ht3 hu3 hg
              cases hgk : g k with
              | false =>
                rw [hgk] at z1
                have hf := stepM_no1 (n := n) (x := x) hgk
                have Hf := Lib.hid hf; clear hf hgk
                go_wp2
                exact ⟨⟨m + 1, by go_num, by omega, by rw [Hst.out, Hf.out]; exact Ht3.out, Hu3.out⟩, by simp [intOf]; omega⟩
              | true =>
                rw [hgk] at z1
                by_cases hx0 : 0 ≤ x
                · have d0 : decide (0 ≤ x) = true := by simp [hx0]
                  by_cases hxn : x < (n : Int)
                  · have hno : nodeB n x = true := nodeB_iff.2 ⟨hx0, hxn⟩
                    have Hf := Lib.hid (stepM_yes hgk hno)
                    obtain ⟨xn, rfl⟩ : ∃ xn : Nat, x = (xn : Int) := ⟨x.toNat, by omega⟩
                    have hxl : xn < n := by omega
                    have z2 := Ht3.out.free xn
                    have z3 := Ht3.out.cell hxl
                    have Hset := Lib.hid (Ht3.out.setM hxl)
                    clear hno hgk hx0 hxn
                    go_wp2
                    exact ⟨⟨m + 1, by go_num, by omega, by rw [Hst.out, Hf.out]; exact Hset.out.1, Hu3.out.trans Hset.out.2⟩, by simp [intOf]; omega⟩
                  · have hno : nodeB n x = false := by simp [nodeB, hxn]
                    have Hf := Lib.hid (stepM_no2 (i := k) (f := g) hno)
                    have d1 : decide (x < (n : Int)) = false := by simp [hxn]
                    clear hno hgk
                    go_wp2
                    exact ⟨⟨m + 1, by go_num, by omega, by rw [Hst.out, Hf.out]; exact Ht3.out, Hu3.out⟩, by simp [intOf]; omega⟩
                · have hno : nodeB n x = false := by simp [nodeB, hx0]
                  have Hf := Lib.hid (stepM_no2 (i := k) (f := g) hno)
                  have d0 : decide (0 ≤ x) = false := by simp [hx0]
                  clear hno hgk
                  go_wp2
                  exact ⟨⟨m + 1, by go_num, by omega, by rw [Hst.out, Hf.out]; exact Ht3.out, Hu3.out⟩, by simp [intOf]; omega⟩
            · obtain rfl : m = L.length := by omega
              rw [List.take_length] at ht3
              have Ht3 := Lib.hid ht3; have Hu3 := Lib.hid hu3; clear ht3 hu3
              go_wp2
              exact ⟨⟨k + 1, by go_num, by omega, by rw [Hps.out]; exact Ht3.out, Hu3.out⟩, by simp [intOf]; omega⟩
        · obtain rfl : k = n := by omega
          have Hit := Lib.hid (show iterM E f (r + 1) = preM E (iterM E f r) k from by rw [iterM, ← Hn.out])
          go_wp2
          exact ⟨⟨r + 1, by go_num, by omega, by rw [Hit.out]; exact Ht2.out, Hu2.out⟩, by simp [intOf]; omega⟩
    · obtain rfl : r = n + 1 := by omega
      go_wp2
      go_ret
      exact ⟨rfl, Ht.out, Hu.out⟩
end Go.Proofs.Yteejlibiidiibaa
