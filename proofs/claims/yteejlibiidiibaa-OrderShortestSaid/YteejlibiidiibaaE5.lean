/-
  Walks: Recursive.
-/
import Derived.Test.YteejlibiidiibaaE4
namespace Go.Proofs.Yteejlibiidiibaa
open Go.RowKit
set_option maxRecDepth 100000
/-- Does a node of the list depend on a node of the list? -/
def badB (E : Gr) (F : List Int) (x : Int) : Bool := nodeB E.length x && (E.getD x.toNat []).any fun k => nodeB E.length k && decide (k ∈ F)
def recB (E : Gr) (F : List Int) : Bool := F.any (badB E F)
def fC (n : Nat) (F : List Int) (x : Int) : Option Bool := if x ∈ F then some (nodeB n x) else none
theorem fC_take {n : Nat} {F : List Int} {k : Nat} (h : k < F.length) : fC n (F.take (k + 1)) = fun z => if z = F[k] then some (nodeB n F[k]) else fC n (F.take k) z := by
  funext z
  unfold fC
  have e1 : z ∈ F.take (k + 1) ↔ z ∈ F.take k ∨ z = F[k] := by rw [List.take_succ_eq_append_getElem h, List.mem_append, List.mem_singleton]
  by_cases e : z = F[k]
  · rw [if_pos (e1.2 (.inr e)), if_pos e, e]
  · simp [e1, e]
theorem MF.put {D : MD} {f : Int → Option Bool} (h : MF D f) (hm : Maps.IsMap D) {y : Int} (hy : wfI y) (c : Bool) : MF (D.put (.int .i64 y) (.lit (.bool c))) (fun z => if z = y then some c else f z) := by
  intro x hx zd
  dsimp only
  by_cases e : x = y
  · subst e
    rw [if_pos rfl, Maps.atKey_put_same hm (k := .int .i64 x) trivial]
  · rw [if_neg e, Maps.atKey_put_other (by simpa using e)]
    exact h x hx zd
theorem MM.made (w : World) (n : Nat) : MM w.heap.size 0 (fC n []) ((w.alloc (.map #[] 0)).alloc (.cells #[.map (some w.heap.size)] 52)) := by
  have h1 : (w.alloc (.map #[] 0)).heap.size = w.heap.size + 1 := by simp
  have h2 := heap_alloc_new (w.alloc (.map #[] 0)) (.cells #[.map (some w.heap.size)] 52)
  rw [h1] at h2
  exact ⟨h2, .map [], (World.ownsMap_made _ _ _ _).alloc _, fun x _ zd => by simp [fC]; rfl⟩
theorem MM.drew' {h cnt : Nat} {f : Int → Option Bool} {w : World} (H : MM h cnt f w) : MM h cnt f w.drew := ⟨H.var, by obtain ⟨D, h1, h2⟩ := H.ex; exact ⟨D, h1.drew, h2⟩⟩
theorem below_turn {w w' : World} {B : Nat} {row : Option Nat} (h : w.grownBy w' row) (hb : ∀ b, row = some b → B ≤ b) (hs : B ≤ w.heap.size) : Below B w w' := ⟨h.os, h.tape, h.output, h.size, fun k hk => h.block k (by omega) (fun e => by have := hb k e.symm; omega)⟩
theorem MF.found {D : MD} {n : Nat} {F : List Int} (hf : MF D (fC n F)) {x : Int} {c : Bool} {kl : Lit} {y : MD × List MemPlace} (hkey : keyOf Try.prog 3 (.int .i64 x) = some kl) (hy : plainElem Try.prog 4 (.bool c) = some y) (hat : ∀ zd, D.atKey kl zd = y.1) :
    kl = .int .i64 x ∧ x ∈ F ∧ c = nodeB n x := by
  obtain ⟨x', e1, e2, hw⟩ := Maps.keyOf_int_inv (q := .i64) (by kernel_rfl) hkey
  cases e1
  subst e2
  obtain ⟨c', e3, rfl⟩ := plainElem_bool_inv hy
  cases e3
  refine ⟨rfl, ?_⟩
  have h1 := hf x hw
  unfold fC at h1
  by_cases hx : x ∈ F
  · simp only [hx, if_true] at h1
    have := (hat (.lit (.bool false))).symm.trans (h1 _)
    simp at this
    exact ⟨hx, this⟩
  · simp only [hx, if_false] at h1
    have h2 := (hat .nil).symm.trans (h1 .nil)
    cases h2
theorem MM.grow {h cnt : Nat} {f : Int → Option Bool} {w w' : World} (H : MM h cnt f w) {D : MD} (hD : w.ownsMap Try.prog 3 (plainElem Try.prog 4) h cnt D) (hf : MF D f) {y : Int} (hy : wfI y) {c : Bool} (h1 : w'.ownsMap Try.prog 3 (plainElem Try.prog 4) h (cnt + 1) (D.put (.int .i64 y) (.lit (.bool c)))) (hg : w.grownBy w' (some h)) :
    MM h (cnt + 1) (fun z => if z = y then some c else f z) w' :=
  ⟨(hg.block _ (heap_lt H.var) (by simp)).trans H.var, _, h1, hf.put hD.isMap hy c⟩
theorem wpList_next_fc (w : World) {ops : Array Oper} {rest : List Oper} {o : Oper} {a : Act} {Q : Exit → Act → World → Prop} (hg : o.guard = none) (it : Operand) (hop : o.op = Op.next it false) (b r m n : Nat) (D : MD) (F : List Int) (hf : MF D (fC n F)) (left : Lit → Bool) (cnt : Nat)
    (hit : a.eval it = .pointer (some ⟨r, 0, none⟩)) (h : w.ranges Try.prog 3 (plainElem Try.prog 4) b r m D left cnt)
    (hDone : cnt = 0 → (∀ kl, left kl = false) → wpList Try.prog ops Q rest (a.put o.dst (.tuple #[.bool false])) w)
    (hMore : ∀ (x : Int) (w' : World) (cnt' : Nat), x ∈ F → w'.ranges Try.prog 3 (plainElem Try.prog 4) b r m D (fun z => left z && !z.sameKey (.int .i64 x)) cnt' → cnt' < cnt →
      w.grownBy w' (some r) → (Instr.entry (.pointer (some ⟨r, 0, none⟩))).run Try.prog w' = .ok (.tuple #[.int .i64 x, .bool (nodeB n x)]) w' → wpList Try.prog ops Q rest (a.put o.dst (.tuple #[.bool true, .int .i64 x, .bool (nodeB n x)])) w') :
    wpList Try.prog ops Q (o :: rest) a w := by
  refine wpList_next_ranges w hg it hop 3 law3 (plainElem Try.prog 4) (Value.int .i64) Value.bool (fun key kl hk => by obtain ⟨x, hx, _⟩ := Maps.keyOf_int_inv (q := .i64) (by kernel_rfl) hk; exact ⟨x, hx⟩) (fun v y hy => by obtain ⟨c, hc, _⟩ := plainElem_bool_inv hy; exact ⟨c, hc⟩) b r m D left cnt hit h hDone ?_
  intro x c kl y w' cnt' hkey hlk hy hat hrg hlt hgr hsz hen
  obtain ⟨rfl, hxF, rfl⟩ := hf.found hkey hy hat
  exact hMore x w' cnt' hxF hrg hlt hgr hen
set_option maxHeartbeats 8000000 in
theorem rec_any (w : World) (p : Option Addr) (n c : Nat) (E : Gr) (F : List Int) (vf : Value) (h : GS w p n E) (hs : SmallG E) (hF : IS w vf F) (hFl : F.length ≤ 100000) (hw : ∀ x ∈ F, wfI x) :
    Calls Try.prog 19 #[.slice p n c, vf] w (ER (recB E F) w) := by
  have hn : n ≤ 100000 := by rw [h.len]; exact hs.nodes
  obtain ⟨q, cq, rfl, hq, hrc⟩ := hF
  have Hn := Lib.hid h.len
  have H := Lib.hid h; have HS := Lib.hid hs; have Hrc := Lib.hid hrc; have Hw := Lib.hid hw
  clear h hs hrc hw
  have hmm := @run_makeMap Try.prog
  have hmf : ∀ (fn : Fn) (first cap : Array Value) (w : World), (Instr.makeFunc fn first cap).run Try.prog w = .ok (.func fn first cap) w := fun _ _ _ _ => rfl
  go_enter Try.func19, Try.ntmps19
  go_upto_region 2 with fail
  have hM := MM.made w n
  have hB := ((Below.refl w.heap.size w).alloc (Nat.le_refl _) (.map #[] 0)).alloc (by simp) (.cells #[.map (some w.heap.size)] 52)
  generalize ((w.alloc (.map #[] 0)).alloc (.cells #[.map (some w.heap.size)] 52)) = w1 at *
  have HM := Lib.hid hM; have HB := Lib.hid hB
  clear hM hB
  go_wp2
  go_loopw [13] (fun i wr => ∃ k : Nat, i = .int .i64 k ∧ k ≤ F.length ∧ MM w.heap.size k (fC n (F.take k)) wr ∧ Below w.heap.size w wr) (fun i _ => F.length - (intOf i).toNat)
  case atStart => exact ⟨0, rfl, by omega, HM.out, HB.out⟩
  case round =>
    obtain ⟨k, rfl, hk, hM, hb⟩ := hrel
    have HM := Lib.hid hM; have Hb := Lib.hid hb
    by_cases hlt : k < F.length
    · obtain ⟨a2, o2, rfl, ha2, z0⟩ := (Hrc.out.below hb).at hlt
      have Hst := Lib.hid (fC_take (n := n) hlt)
      have Hx := Lib.hid (Hw.out _ (List.getElem_mem hlt))
      have Hcall := Lib.hid (node_any p n c F[k])
      generalize F[k] = x at *
      have zv := one_cell hM.var
      obtain ⟨D, hD, hf⟩ := hM.ex
      have HD := Lib.hid hD; have Hf := Lib.hid hf
      have y0 := Lib.hid (show wr.drew.cell? ⟨w.heap.size + 1, 0, none⟩ = _ from zv)
      clear hM hb hD hf
      go_wp2_with (first
        | ((with_reducible refine Lex.at_finK ?_); refine LexK.finE_on (by kernel_rfl) (by repeat first | exact LexK.finL_nil | refine LexK.finL_none rfl ?_ | refine LexK.finL_skip (by decide +kernel) ?_ | refine LexK.finL_take rfl rfl y0.out ?_) ?_)
        | ((with_reducible refine Lex.at_region ?_); refine LexK.wp_region_lexE (fun x => x = w.heap.size + 1) (by kernel_rfl) (by decide +kernel) ?_)
        | ((with_reducible refine Lex.at_wpX ?_); with_reducible refine LexK.wpX_plain (by decide +kernel) ?_)
        | ((with_reducible refine Lex.at_wpX ?_); with_reducible refine LexK.wpX_call ?_)
        | ((with_reducible refine Lex.at_wpX ?_); with_reducible refine LexK.wpX_nil ?_)
        | ((with_reducible refine Lex.at_ext ?_); with_reducible refine LexK.ext_on (LexK.Ext.refl _) ?_)
        | (go_at_call 23; refine (Hcall.out _).mono ?_; rintro e w' ⟨rfl, rfl⟩)
        | (at_mapUpdate; refine wpList_mapUpdate_own _ rfl _ _ _ 52 rfl 3 4 law3 und52 _ w.heap.size k _ rfl HD.out.drew (by unfold maxLen; omega) _ _ _ rfl rfl (key3 Hx.out) _ [] (plainElem_bool und4 _) ?_; intro w2 hown2 hg2; have Ho2 := Lib.hid hown2; have Hg2 := Lib.hid hg2; clear hown2 hg2))
      exact ⟨⟨k + 1, by go_num, by omega, by rw [Hst.out]; exact HM.out.drew'.grow HD.out.drew Hf.out Hx.out Ho2.out Hg2.out, Hb.out.drew.trans (below_turn Hg2.out (by simp) Hb.out.size)⟩, by simp [intOf]; omega⟩
    · obtain rfl : k = F.length := by omega
      rw [List.take_length] at hM
      have HM := Lib.hid hM
      obtain ⟨D, hD, hf⟩ := hM.ex
      have zv := one_cell hM.var
      have HD := Lib.hid hD; have Hf := Lib.hid hf
      obtain ⟨wq, rfl⟩ : ∃ wq : World, wq = wr := ⟨_, rfl⟩
      clear hM hb hD hf
      go_wp2_with (at_range; refine wpList_range_own _ rfl _ 52 rfl 3 4 law3 und52 _ w.heap.size F.length _ rfl HD.out ?_; intro w0 hrg0 hg0 hs0; have Hrg0 := Lib.hid hrg0; have Hg0 := Lib.hid hg0; clear hrg0 hg0 hs0)
      go_frame
      go_loopw [8] (fun _ wr => ∃ (left : Lit → Bool) (cnt : Nat), wr.ranges Try.prog 3 (plainElem Try.prog 4) w.heap.size wq.heap.size F.length D left cnt ∧ wr.heap[w.heap.size + 1]? = some (.cells #[.map (some w.heap.size)] 52) ∧ Below w.heap.size w wr ∧ ∀ x ∈ F, left (.int .i64 x) = false → badB E F x = false)
        (fun _ wr => wr.rangeLeft w.heap.size wq.heap.size)
      case atStart => exact ⟨_, _, Hrg0.out, (Hg0.out.block _ (heap_lt HM.out.var) (by simp)).trans HM.out.var, Hb.out.trans (below_turn Hg0.out (by simp) Hb.out.size), fun x hx hl => by rw [Hf.out.has (Hw.out x hx)] at hl; simp [fC, hx] at hl⟩
      case round =>
        obtain ⟨left, cnt, hrg, hvar, hb5, hall⟩ := hrel
        have Hrg := Lib.hid hrg; have Hvar := Lib.hid hvar; have Hb5 := Lib.hid hb5; have Hall := Lib.hid hall
        clear hrg hvar hb5 hall
        go_wp2_with (at_next; refine wpList_next_fc _ rfl _ rfl w.heap.size wq.heap.size F.length n D F Hf.out left cnt rfl Hrg.out ?_ ?_)
        · intro _ hl0
          have hr : recB E F = false := by
            unfold recB
            rw [List.any_eq_false]
            exact fun x hx => by rw [Hall.out x hx (hl0 _)]; simp
          have Hr := Lib.hid hr; clear hr hl0
          go_wp2
          go_ret
          rw [Hr.out]
          exact ⟨rfl, Hb5.out⟩
        · intro x w6 cnt' hxF hrg1 hlt hg1 hen
          have Hx := Lib.hid (Hw.out x hxF); have HxF := Lib.hid hxF
          have hne : w.heap.size + 1 ≠ wq.heap.size := fun e => by have := heap_lt HM.out.var; omega
          have hvar6 := (hg1.block _ (heap_lt Hvar.out) (by simp; exact hne)).trans Hvar.out
          have hb6 := Hb5.out.trans (below_turn hg1 (by simp; exact Hb.out.size) Hb5.out.size)
          have Hvar6 := Lib.hid hvar6; have Hb6 := Lib.hid hb6; have Hrg1 := Lib.hid hrg1; have Hlt := Lib.hid hlt
          have hin : ∀ y ∈ F, (fun z : Lit => left z && !z.sameKey (.int .i64 x)) (.int .i64 y) = false → badB E F x = false → badB E F y = false := fun y hy hl hbx => by
            by_cases e : y = x
            · rw [e]; exact hbx
            · refine Hall.out y hy ?_
              have : (Lit.int .i64 y).sameKey (.int .i64 x) = false := by simp [Lit.sameKey, e]
              simpa [this] using hl
          have Hin := Lib.hid hin
          clear hrg1 hg1 hvar6 hb6 hxF hlt hin hne
          cases hno : nodeB n x with
          | false =>
            have Hbad := Lib.hid (show badB E F x = false by unfold badB; rw [← Hn.out, hno]; rfl)
            rw [hno] at hen
            clear hno
            go_wp2
            go_roundw
            case rel => exact ⟨_, cnt', Hrg1.out, Hvar6.out, Hb6.out, fun y hy hl => Hin.out y hy hl Hbad.out⟩
            case measure => rw [Hrg1.out.left_eq, Hrg.out.left_eq]; exact Hlt.out
          | true =>
            rw [hno] at hen
            obtain ⟨h0, h1⟩ := nodeB_iff.1 hno
            obtain ⟨xi, rfl⟩ : ∃ xi : Nat, x = (xi : Int) := ⟨x.toNat, by omega⟩
            have hxl : xi < n := by omega
            obtain ⟨a, o, qr, cr, rfl, ha, hqr, hcell, hrc⟩ := H.out.row (k := xi) (by rw [← Hn.out]; exact hxl)
            have hL : E[xi].length ≤ 100000 := HS.out.row xi _
            have zr := hcell w6 Hb6.out
            have hM6 : MM w.heap.size F.length (fC n F) w6 := ⟨Hvar6.out, D, Hrg1.out.owns, Hf.out⟩
            have hv6 := one_cell Hvar6.out
            have hcall := contf_any w.heap.size F.length (fC n F) w6 hM6 _ E[xi] ⟨qr, cr, rfl, hqr, hrc w6 Hb6.out⟩ hL (HS.out.wf _ (List.getElem_mem _))
            have hbad : badB E F (xi : Int) = E[xi].any fun y => (fC n F y).getD false := by
              have hnl : n = E.length := Hn.out
              subst hnl
              unfold badB
              rw [hno, Bool.true_and, Int.toNat_natCast, getD_at hxl]
              congr 1
              funext y
              unfold fC
              by_cases hy : y ∈ F <;> simp [hy]
            generalize (E[xi].any fun y => (fC n F y).getD false) = bb at *
            generalize E[xi] = L at *
            have Hcall := Lib.hid hcall; have Hbad := Lib.hid hbad
            clear hcall hbad hM6 hcell hrc hno h0 h1
            cases bb with
            | true =>
              go_wp2_with (go_at_call 33; refine Hcall.out.mono ?_; rintro e w' ⟨rfl, rfl⟩)
              go_ret
              have hr : recB E F = true := by
                unfold recB
                rw [List.any_eq_true]
                exact ⟨_, HxF.out, Hbad.out⟩
              rw [hr]
              exact ⟨rfl, Hb6.out⟩
            | false =>
              go_wp2_with (go_at_call 33; refine Hcall.out.mono ?_; rintro e w' ⟨rfl, rfl⟩)
              go_roundw
              case rel => exact ⟨_, cnt', Hrg1.out, Hvar6.out, Hb6.out, fun y hy hl => Hin.out y hy hl Hbad.out⟩
              case measure => rw [Hrg1.out.left_eq, Hrg.out.left_eq]; exact Hlt.out
end Go.Proofs.Yteejlibiidiibaa
