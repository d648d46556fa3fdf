/-
  Walks: Cycle.
-/
import Derived.Test.YteejlibiidiibaaV6
namespace Go.Proofs.Yteejlibiidiibaa
open Go.RowKit
set_option maxRecDepth 100000
theorem contains_any (v : Value) (xs : List Int) (x : Int) (w : World) (h : IS w v xs) (hl : xs.length ≤ 1000000) : Calls Try.prog 27 #[v, .int .i64 x] w fun e w' => e = .returned (.bool (decide (x ∈ xs))) ∧ w = w' := by
  obtain ⟨p, c, rfl, hc, hr⟩ := h
  have e : xs.contains x = decide (x ∈ xs) := by simp [List.contains_eq_mem]
  by_cases h0 : xs = []
  · subst h0
    refine (Try.slices_Contains_int_empty p c x w).mono ?_
    rintro e' w' ⟨rfl, rfl⟩
    exact ⟨by simp, rfl⟩
  · obtain ⟨b, off, rfl, _, h3⟩ := hr.2 (List.length_pos_iff.2 h0)
    have := Try.slices_Contains_int b off xs.length c xs x w (Nat.le_refl _) (by omega) (fun j hj => h3 j _ (by simp [ic, hj]))
    rw [List.take_length, e] at this
    refine this.mono ?_
    rintro e' w' ⟨rfl, rfl⟩
    exact ⟨rfl, rfl⟩
/-- Which nodes lie on a cycle. -/
theorem GI.onC {E : Gr} {of : Nat → Int} {gr : List (List Int)} (H : GI E of gr) {i : Nat} (hi : i < E.length) (h0 : 0 ≤ of i) {G : List Int} (hG : gr[(of i).toNat]? = some G) : 0 ≤ nx E i i ↔ 1 < G.length ∨ (i : Int) ∈ E.getD i [] := by
  have hm := H.mem _ G hG
  have hiG : (i : Int) ∈ G := (hm i).2 ⟨i, hi, rfl, by omega⟩
  rw [nx_cyc]
  constructor
  · rintro ⟨k, h1, h2, h3⟩
    by_cases e : k = i
    · subst e; exact .inr h1
    · left
      have hk : of k = of i := (H.mutr i k hi h2 h0).2 ⟨(Pth.refl hi).step h1 h2, h3⟩
      have hkG : (k : Int) ∈ G := (hm k).2 ⟨k, h2, rfl, by omega⟩
      match G, hiG, hkG with
      | [a], h4, h5 =>
        rw [List.mem_singleton] at h4 h5
        omega
      | a :: b :: l, _, _ => simp
  · rintro (h1 | h1)
    · have hasc := H.asc G (List.mem_of_getElem? hG)
      have hex : ∃ x, x ∈ G ∧ x ≠ (i : Int) := by
        match G, h1, hasc with
        | a :: b :: l, _, h2 =>
          have h3 := (List.pairwise_cons.1 h2).1 b (by simp)
          by_cases e : a = (i : Int)
          · exact ⟨b, by simp, by omega⟩
          · exact ⟨a, by simp, e⟩
      obtain ⟨x, hx, hne⟩ := hex
      obtain ⟨j, hj, rfl, hof⟩ := (hm x).1 hx
      obtain ⟨p1, p2⟩ := (H.mutr i j hi hj h0).1 (by omega)
      obtain ⟨d, hd⟩ := p1.wn
      cases d with
      | zero => exact absurd (by have := hd.1; omega) hne
      | succ d =>
        rcases hd.left with ⟨e, _⟩ | ⟨k, g1, g2, g3⟩
        · exact absurd (by omega) hne
        · exact ⟨k, g1, g2, g3.pth.trans p2⟩
    · exact ⟨i, h1, hi, .refl hi⟩
/-- Where Cycle's second loop stands. -/
structure ItJ (E : Gr) (tg t : Nat) : Prop where
  lt : it E tg t < E.length
  ok : t = 0 ∨ (ItI E tg t ∧ it E tg t ≠ tg)
  nn : 0 ≤ nx E tg tg
theorem ItJ.next {E : Gr} {tg t : Nat} (h : ItJ E tg t) : ItI E tg (t + 1) ∧ nx E tg (it E tg t) = ((it E tg (t + 1) : Nat) : Int) := by
  rcases h.ok with rfl | ⟨h1, h2⟩
  · refine ⟨ItI.start h.nn, ?_⟩
    show nx E tg tg = (((nx E tg tg).toNat : Nat) : Int)
    have := h.nn; omega
  · have := h1.next h2; exact ⟨this.1, this.2.1⟩
theorem ItJ.bd {E : Gr} {tg t : Nat} (h : ItJ E tg t) : t < E.length := by
  rcases h.ok with rfl | ⟨h1, h2⟩
  · have := h.lt; omega
  · have := h1.len
    have h3 := h1.ge
    rcases Int.lt_or_le 0 (sd E tg (it E tg t)) with h4 | h4
    · omega
    · exact absurd (sd_zero (E := E) (tg := tg) (i := it E tg t) (by omega)) h2
set_option maxHeartbeats 32000000 in
theorem cycle_any (w : World) (p : Option Addr) (n c : Nat) (E : Gr) (h : GS w p n E) (hs : SmallG E) (hn : n ≤ 1000) (hrow : ∀ l ∈ E, l.length ≤ 1000) :
    Calls Try.prog 15 #[.slice p n c] w (CO E w) := by
  have Hn := Lib.hid h.len
  have H := Lib.hid h; have HS := Lib.hid hs; have Hrow := Lib.hid hrow
  have Hfind := Lib.hid (find_any w p n c E h hs)
  clear h hs hrow
  go_enter Try.func15, Try.ntmps15
  go_upto_region 2 with (go_at_call 22; refine Hfind.out.mono ?_; rintro e w1 ⟨s, gv, ob, rfl, hfd, hob, hb1⟩; obtain ⟨pg, cg, rfl, hgs⟩ := hfd.grs; have Hfd := Lib.hid hfd; have Hob := Lib.hid hob; have Hb1 := Lib.hid hb1; have Hgs := Lib.hid hgs; clear hfd hob hb1 hgs)
  have hGn : s.gr.length ≤ 1000 := by have := Hfd.out.grl; have := Hn.out; omega
  have HGA := Lib.hid (show GA E s.of s.gr from ⟨Hfd.out.gi, Hfd.out.all⟩)
  have Hof := Lib.hid Hfd.out.of
  have hobl := Hfd.out.of.lt
  generalize s.of = of at *
  generalize s.gr = gr at *
  go_wp2
  go_loopw [19, 5] (fun a b wr => ∃ i : Nat, a = .int .i64 i ∧ b = .int .i64 (-1) ∧ i ≤ n ∧ (∀ j, j < i → nx E j j < 0) ∧ Below w1.heap.size w1 wr) (fun a _ _ => n - (intOf a).toNat)
  case atStart => exact ⟨0, rfl, rfl, by omega, fun j hj => by omega, Below.refl _ _⟩
  case round =>
    obtain ⟨i, rfl, rfl, hi, hno, hb⟩ := hrel
    have Hno := Lib.hid hno; have Hb := Lib.hid hb
    clear hno hb
    by_cases hlt : i < n
    · have hiE : i < E.length := by rw [← Hn.out]; exact hlt
      have hog := HGA.out.og hiE
      have Hgs2 := Lib.hid (Hgs.out.below Hb.out)
      obtain ⟨a, o, vg, hpg, ha, zg, hIG⟩ := Hgs2.out.at' (of i).toNat hog.2
      obtain ⟨qg, cgg, rfl, hqg, hrg⟩ := hIG
      have zo := (Hof.out.below Hb.out).cell hiE
      rw [hog.1] at zo
      have Hon := Lib.hid (HGA.out.gi.onC hiE (by omega) (List.getElem?_eq_getElem hog.2))
      have hGl : gr[(of i).toNat].length ≤ 1000000 := by
        have h1 := HGA.out.gi.asc _ (List.getElem_mem hog.2)
        have h2 := hlen_of (n := E.length) (h := gr[(of i).toNat]) (h1.imp fun {a b} h => by omega) fun x hx => by
          obtain ⟨j, h3, h4, _⟩ := (HGA.out.gi.mem _ _ (List.getElem?_eq_getElem hog.2) x).1 hx
          exact ⟨j, h3, h4⟩
        have := Hn.out
        omega
      generalize gr[(of i).toNat] = G at *
      subst hpg
      obtain ⟨ae, oe, q, cq, rfl, hae, hq, hcell, hrc⟩ := H.out.row (k := i) hiE
      have hLl : E[i].length ≤ 1000 := Hrow.out _ (List.getElem_mem hiE)
      have hb0r := Hb1.out.trans (Hb.out.mono Hb1.out.size)
      have Hb0r := Lib.hid hb0r
      have c0 := hcell wr hb0r
      have HIs := Lib.hid (show IS wr (.slice q E[i].length cq) E[i] from ⟨q, cq, rfl, hq, hrc wr hb0r⟩)
      have Hge := Lib.hid (getD_at hiE)
      rw [Hge.out] at Hon
      have Hcon := Lib.hid (contains_any _ _ (i : Int) wr HIs.out (by omega))
      have HiE := Lib.hid hiE
      generalize E[i] = L at *
      generalize (of i).toNat = gi at *
      clear hrc hcell hiE hb0r
      by_cases hg1 : 1 < G.length
      · have d1 : decide (1 < G.length) = true := by simp [hg1]
        have Hnx := Lib.hid (Hon.out.2 (.inl hg1))
        have d0 : decide ((i : Int) < 0) = false := by simp
        skip
        go_upto_region 9 with fail
        go_upto_region 12 with (go_at_call 28; refine (dist_any wr _ n c E i (H.out.below Hb0r.out) HS.out hn Hrow.out hlt).mono ?_; rintro e w3 ⟨db, rfl, hdb, hD, hb3⟩; have HD := Lib.hid hD; have Hb3 := Lib.hid (Hb0r.out.step hb3); clear hD hb3 hdb)
        have b4 : Below w3.heap.size w3 (w3.alloc (.cells #[.int .i64 i] 3)) := (Below.refl _ _).alloc (Nat.le_refl _) _
        have o4 := Lib.hid (own_one (B := w3.heap.size) (heap_alloc_new w3 (.cells #[.int .i64 i] 3)) (Nat.le_refl _))
        have Hb4 := Lib.hid b4
        go_upto_region 13 with fail
        generalize w3.alloc (.cells #[.int .i64 i] 3) = w4 at *
        clear b4
        go_loopg [8] n (fun q v wr => ∃ t, q + t = n ∧ wr.ownsRow w3.heap.size 3 1 v (t + 1) (ic (itL E i (t + 1))) ∧ ItJ E i t ∧ Below w3.heap.size w3 wr)
        case atStart => exact ⟨0, by omega, by simpa [itL, it] using o4.out, ⟨HiE.out, .inl rfl, Hnx.out⟩, Hb4.out⟩
        case round =>
          obtain ⟨t, hqt, hown, hJ, hb5⟩ := hrel
          have HJ := Lib.hid hJ; have Hb5 := Lib.hid hb5; have Hqt := Lib.hid hqt
          obtain ⟨p8, c8, rfl⟩ := own_slice hown
          have htn : t < n := by have := hJ.bd; have := Hn.out; omega
          obtain ⟨a8, o8, he8, -, z8⟩ := (RC.of_own hown).at (L := itL E i (t + 1)) (m := t) (by rw [itL_len]; omega)
          have hlast : (itL E i (t + 1))[t]'(by rw [itL_len]; omega) = ((it E i t : Nat) : Int) := by simp [itL]
          rw [hlast] at z8
          subst he8
          have Ho := Lib.hid hown
          have Hb6 := Lib.hid (Hb3.out.trans (hb5.mono Hb3.out.size))
          have hyl : it E i t < E.length := hJ.lt
          have hyn : it E i t < n := by rw [Hn.out]; exact hyl
          have Hnext := Lib.hid hJ.next
          obtain ⟨ae2, oe2, q2, cq2, hpe2, hae2, hq2, hcell2, hrc2⟩ := H.out.row (k := it E i t) hyl
          injection hpe2 with hpe2; injection hpe2 with e1 e2; subst e1 e2
          have c2 := hcell2 wr Hb6.out
          have hL2 : E[it E i t].length ≤ 1000 := Hrow.out _ (List.getElem_mem hyl)
          have Hrc2 := Lib.hid hrc2
          have Hpk := Lib.hid (show pick E i E[it E i t] = ((it E i (t + 1) : Nat) : Int) by rw [← Hnext.out.2]; unfold nx; rw [getD_at hyl])
          have Hity := Lib.hid (rfl : it E i t = it E i t)
          generalize E[it E i t] = L2 at *
          generalize hyy : it E i t = y at *
          have Hy := Lib.hid hyy
          obtain ⟨wq, hwq⟩ : ∃ wq : World, wq = wr := ⟨_, rfl⟩
          subst hwq
          clear hqt hown hJ hb5 hlast hcell2 hrc2 hyl hyy
          go_wp2
          go_loopw [58, 9] (fun a b wr => ∃ m : Nat, a = .int .i64 m ∧ b = .int .i64 (pick E i (L2.take m)) ∧ m ≤ L2.length ∧ Below wq.heap.size wq wr) (fun a _ _ => L2.length - (intOf a).toNat)
          case atStart => exact ⟨0, rfl, rfl, by omega, Below.refl _ _⟩
          case round =>
            obtain ⟨m, rfl, rfl, hm, hb7⟩ := hrel
            have Hb7 := Lib.hid hb7
            have hpl := pick_lo E i (L2.take m)
            clear hb7
            by_cases hlm : m < L2.length
            · obtain ⟨a9, o9, he9, -, z9⟩ := (Hrc2.out wr (Hb6.out.trans (Hb7.out.mono Hb6.out.size))).at hlm
              subst he9
              have Hst := Lib.hid (pick_take (E := E) (tg := i) hlm)
              have HD7 := Lib.hid (HD.out.below (w' := wr) (Hb5.out.trans (Hb7.out.mono Hb5.out.size)))
              generalize L2[m] = x at *
              generalize pick E i (L2.take m) = b at *
              have Hpl := Lib.hid hpl
              have Hnode := Lib.hid (node_any (some ⟨ae, oe, none⟩) n c x)
              clear hpl
              by_cases hno : nodeB n x = true
              · skip
                obtain ⟨hx0, hxn⟩ := nodeB_iff.1 hno
                obtain ⟨xn, rfl⟩ : ∃ xn : Nat, x = (xn : Int) := ⟨x.toNat, by omega⟩
                have hxl : xn < n := by omega
                rw [hno] at Hnode
                have Hf := Lib.hid (stepP_is (E := E) (tg := i) (b := b) (x := (xn : Int)) (by rw [← Hn.out]; exact hno))
                rw [Int.toNat_natCast] at Hf
                have zx := HD7.out.cell hxl
                generalize sd E i xn = dx at *
                clear hno hx0 hxn
                by_cases hd : 0 ≤ dx
                · have d2 : decide (0 ≤ dx) = true := by simp [hd]
                  rcases Hpl.out with hbm | ⟨hb0, hbn⟩
                  · subst hbm
                    have Hg := Lib.hid (show stepP E i (-1) (xn : Int) = (xn : Int) by rw [Hf.out, if_pos ⟨hd, .inl (by omega)⟩])
                    skip
                    clear Hf
                    go_wp2_with (first
                      | ((with_reducible refine Lex.at_region ?_); with_reducible refine Lex.wp_region_lex (by kernel_rfl) (by decide +kernel) ?_)
                      | ((with_reducible refine Lex.at_fin ?_); with_reducible refine Lex.fin_on (by kernel_rfl) ?_)
                      | (go_at_call 23; refine (Hnode.out _).mono ?_; rintro e w6 ⟨rfl, rfl⟩))
                    exact ⟨⟨m + 1, by go_num, by rw [Hst.out, Hg.out], by omega, Hb7.out.drew⟩, by simp [intOf]; omega⟩
                  · obtain ⟨bn, rfl⟩ : ∃ bn : Nat, b = (bn : Int) := ⟨b.toNat, by omega⟩
                    have hbl : bn < n := by have := Hn.out; omega
                    rw [Int.toNat_natCast] at Hf
                    have zb := HD7.out.cell hbl
                    have d3 : decide ((bn : Int) < 0) = false := by simp
                    generalize sd E i bn = dd at *
                    clear hb0 hbn Hpl
                    by_cases h1 : dx < dd
                    · have d4 : decide (dx < dd) = true := by simp [h1]
                      have Hg := Lib.hid (show stepP E i (bn : Int) (xn : Int) = (xn : Int) by rw [Hf.out, if_pos ⟨hd, .inr (.inl h1)⟩])
                      skip
                      clear Hf
                      go_wp2_with (first
                        | ((with_reducible refine Lex.at_region ?_); with_reducible refine Lex.wp_region_lex (by kernel_rfl) (by decide +kernel) ?_)
                        | ((with_reducible refine Lex.at_fin ?_); with_reducible refine Lex.fin_on (by kernel_rfl) ?_)
                        | (go_at_call 23; refine (Hnode.out _).mono ?_; rintro e w6 ⟨rfl, rfl⟩))
                      exact ⟨⟨m + 1, by go_num, by rw [Hst.out, Hg.out], by omega, Hb7.out.drew⟩, by simp [intOf]; omega⟩
                    · have d4 : decide (dx < dd) = false := by simp; omega
                      by_cases h2 : dx = dd
                      · have d5 : (dx == dd) = true := by simp [h2]
                        by_cases h3 : xn < bn
                        · have d6 : decide (xn < bn) = true := by simp [h3]
                          have Hg := Lib.hid (show stepP E i (bn : Int) (xn : Int) = (xn : Int) by rw [Hf.out, if_pos ⟨hd, .inr (.inr ⟨h2, by omega⟩)⟩])
                          clear h2
                          skip
                          clear Hf
                          go_wp2_with (first
                            | ((with_reducible refine Lex.at_region ?_); with_reducible refine Lex.wp_region_lex (by kernel_rfl) (by decide +kernel) ?_)
                            | ((with_reducible refine Lex.at_fin ?_); with_reducible refine Lex.fin_on (by kernel_rfl) ?_)
                            | (go_at_call 23; refine (Hnode.out _).mono ?_; rintro e w6 ⟨rfl, rfl⟩))
                          exact ⟨⟨m + 1, by go_num, by rw [Hst.out, Hg.out], by omega, Hb7.out.drew⟩, by simp [intOf]; omega⟩
                        · have d6 : decide (xn < bn) = false := by simp; omega
                          have Hg := Lib.hid (show stepP E i (bn : Int) (xn : Int) = (bn : Int) by rw [Hf.out, if_neg (by rintro ⟨_, h | h | ⟨_, h⟩⟩ <;> omega)])
                          clear h2
                          skip
                          clear Hf
                          go_wp2_with (first
                            | ((with_reducible refine Lex.at_region ?_); with_reducible refine Lex.wp_region_lex (by kernel_rfl) (by decide +kernel) ?_)
                            | ((with_reducible refine Lex.at_fin ?_); with_reducible refine Lex.fin_on (by kernel_rfl) ?_)
                            | (go_at_call 23; refine (Hnode.out _).mono ?_; rintro e w6 ⟨rfl, rfl⟩))
                          exact ⟨⟨m + 1, by go_num, by rw [Hst.out, Hg.out], by omega, Hb7.out.drew⟩, by simp [intOf]; omega⟩
                      · have d5 : (dx == dd) = false := by simp [h2]
                        have Hg := Lib.hid (show stepP E i (bn : Int) (xn : Int) = (bn : Int) by rw [Hf.out, if_neg (by rintro ⟨_, h | h | ⟨h, _⟩⟩ <;> omega)])
                        skip
                        clear Hf
                        go_wp2_with (first
                          | ((with_reducible refine Lex.at_region ?_); with_reducible refine Lex.wp_region_lex (by kernel_rfl) (by decide +kernel) ?_)
                          | ((with_reducible refine Lex.at_fin ?_); with_reducible refine Lex.fin_on (by kernel_rfl) ?_)
                          | (go_at_call 23; refine (Hnode.out _).mono ?_; rintro e w6 ⟨rfl, rfl⟩))
                        exact ⟨⟨m + 1, by go_num, by rw [Hst.out, Hg.out], by omega, Hb7.out.drew⟩, by simp [intOf]; omega⟩
                · have d2 : decide (0 ≤ dx) = false := by simp; omega
                  have Hg := Lib.hid (show stepP E i b (xn : Int) = b by rw [Hf.out, if_neg (by rintro ⟨h, _⟩; omega)])
                  skip
                  clear Hf
                  go_wp2_with (first
                    | ((with_reducible refine Lex.at_region ?_); with_reducible refine Lex.wp_region_lex (by kernel_rfl) (by decide +kernel) ?_)
                    | ((with_reducible refine Lex.at_fin ?_); with_reducible refine Lex.fin_on (by kernel_rfl) ?_)
                    | (go_at_call 23; refine (Hnode.out _).mono ?_; rintro e w6 ⟨rfl, rfl⟩))
                  exact ⟨⟨m + 1, by go_num, by rw [Hst.out, Hg.out], by omega, Hb7.out.drew⟩, by simp [intOf]; omega⟩
              · have hno' : nodeB n x = false := by simpa using hno
                rw [hno'] at Hnode
                have Hg := Lib.hid (stepP_no (E := E) (tg := i) (b := b) (x := x) (by rw [← Hn.out]; exact hno'))
                clear hno hno'
                go_wp2_with (first
                  | ((with_reducible refine Lex.at_region ?_); with_reducible refine Lex.wp_region_lex (by kernel_rfl) (by decide +kernel) ?_)
                  | ((with_reducible refine Lex.at_fin ?_); with_reducible refine Lex.fin_on (by kernel_rfl) ?_)
                  | (go_at_call 23; refine (Hnode.out _).mono ?_; rintro e w6 ⟨rfl, rfl⟩))
                exact ⟨⟨m + 1, by go_num, by rw [Hst.out, Hg.out], by omega, Hb7.out.drew⟩, by simp [intOf]; omega⟩
            · have hmL : m = L2.length := by omega
              have hpe : pick E i (L2.take m) = ((it E i (t + 1) : Nat) : Int) := by rw [hmL, List.take_length]; exact Hpk.out
              have dmm : decide (m < L2.length) = false := by simp; omega
              rw [hpe]
              rw [hpe] at hpl
              have Ho7 := Lib.hid (ownsRow_below Ho.out Hb7.out (Nat.le_refl _))
              have Hb8 := Lib.hid (Hb5.out.trans (Hb7.out.mono Hb5.out.size))
              generalize hz : it E i (t + 1) = z at *
              have Hz := Lib.hid hz
              clear hpe hmL hz
              by_cases hzi : z = i
              · have d9 : ((z : Int) == (i : Int)) = true := by simp [hzi]
                have Hout := Lib.hid (Hnext.out.1.out (by rw [Hz.out]; exact hzi) HiE.out Hnx.out Hno.out)
                clear hzi
                go_wp2
                go_ret
                exact ⟨_, _, Hout.out.1, rfl, own_is (by rw [itL_len]; exact Ho7.out), Hout.out.2, Hb3.out.trans (Hb8.out.mono Hb3.out.size)⟩
              · have d9 : ((z : Int) == (i : Int)) = false := by simp; omega
                have HJ2 := Lib.hid (show ItJ E i (t + 1) from ⟨Hnext.out.1.lt, .inr ⟨Hnext.out.1, by rw [Hz.out]; exact hzi⟩, Hnx.out⟩)
                have hbd : t + 1 + 1 ≤ 67108864 := by omega
                have b9 : Below wr.heap.size wr (wr.alloc (.cells #[.int .i64 z] 3)) := (Below.refl _ _).alloc (Nat.le_refl _) _
                have n9 := heap_alloc_new wr (.cells #[.int .i64 z] 3)
                have Ho9 := Lib.hid (ownsRow_below Ho7.out b9 (Nat.le_refl _)); have Hb9 := Lib.hid (Hb8.out.step b9)
                have Hrc9 := Lib.hid (show RC (wr.alloc (.cells #[.int .i64 z] 3)) 1 (some ⟨wr.heap.size, 0, none⟩) 1 (ic [(z : Int)]) from RC.row rfl n9 (fun j u hu => by simpa [ic] using hu))
                have Hbz := Lib.hid Hb9.out.size
                clear b9 n9 hzi
                go_wp2_with (at_builtin; go_loud (refine wpList_append_ownrc rfl (.tmp 109) (.tmp 111) 22 rfl 3 (by kernel_rfl) int_info rfl (by decide) (by decide) w3.heap.size _ (some ⟨wr.heap.size, 0, none⟩) (t + 1) 1 1 _ (ic [(z : Int)]) Hbz.out _ rfl rfl Ho9.out Hrc9.out (ic_one _) hbd ?_); intro v10 w10 ho10 hf10; have Ho10 := Lib.hid ho10; have Hf10 := Lib.hid (Hb9.out.trans (hf10.below Hbz.out (by simp) (fun g hg => (Ho9.out.lt g hg).1))); clear ho10 hf10)
                go_roundg (n - (t + 1))
                case rel => exact ⟨t + 1, by omega, by rw [itL_succ, Hz.out, show ic (itL E i (t + 1) ++ [(z : Int)]) = ic (itL E i (t + 1)) ++ ic [(z : Int)] by simp [ic]]; exact Ho10.out, HJ2.out, Hf10.out⟩
                case measure => have := Hqt.out; omega
      · have d1 : decide (1 < G.length) = false := by simp; omega
        by_cases hin : (i : Int) ∈ L
        · have Hnx := Lib.hid (Hon.out.2 (.inr hin))
          rw [decide_eq_true hin] at Hcon
          have d0 : decide ((i : Int) < 0) = false := by simp
          clear hin
          go_upto_region 9 with (go_at_call 27; refine Hcon.out.mono ?_; rintro e w2 ⟨rfl, rfl⟩)
          go_upto_region 12 with (go_at_call 28; refine (dist_any wr _ n c E i (H.out.below Hb0r.out) HS.out hn Hrow.out hlt).mono ?_; rintro e w3 ⟨db, rfl, hdb, hD, hb3⟩; have HD := Lib.hid hD; have Hb3 := Lib.hid (Hb0r.out.step hb3); clear hD hb3 hdb)
          have b4 : Below w3.heap.size w3 (w3.alloc (.cells #[.int .i64 i] 3)) := (Below.refl _ _).alloc (Nat.le_refl _) _
          have o4 := Lib.hid (own_one (B := w3.heap.size) (heap_alloc_new w3 (.cells #[.int .i64 i] 3)) (Nat.le_refl _))
          have Hb4 := Lib.hid b4
          go_upto_region 13 with fail
          generalize w3.alloc (.cells #[.int .i64 i] 3) = w4 at *
          clear b4
          go_loopg [8] n (fun q v wr => ∃ t, q + t = n ∧ wr.ownsRow w3.heap.size 3 1 v (t + 1) (ic (itL E i (t + 1))) ∧ ItJ E i t ∧ Below w3.heap.size w3 wr)
          case atStart => exact ⟨0, by omega, by simpa [itL, it] using o4.out, ⟨HiE.out, .inl rfl, Hnx.out⟩, Hb4.out⟩
          case round =>
            obtain ⟨t, hqt, hown, hJ, hb5⟩ := hrel
            have HJ := Lib.hid hJ; have Hb5 := Lib.hid hb5; have Hqt := Lib.hid hqt
            obtain ⟨p8, c8, rfl⟩ := own_slice hown
            have htn : t < n := by have := hJ.bd; have := Hn.out; omega
            obtain ⟨a8, o8, he8, -, z8⟩ := (RC.of_own hown).at (L := itL E i (t + 1)) (m := t) (by rw [itL_len]; omega)
            have hlast : (itL E i (t + 1))[t]'(by rw [itL_len]; omega) = ((it E i t : Nat) : Int) := by simp [itL]
            rw [hlast] at z8
            subst he8
            have Ho := Lib.hid hown
            have Hb6 := Lib.hid (Hb3.out.trans (hb5.mono Hb3.out.size))
            have hyl : it E i t < E.length := hJ.lt
            have hyn : it E i t < n := by rw [Hn.out]; exact hyl
            have Hnext := Lib.hid hJ.next
            obtain ⟨ae2, oe2, q2, cq2, hpe2, hae2, hq2, hcell2, hrc2⟩ := H.out.row (k := it E i t) hyl
            injection hpe2 with hpe2; injection hpe2 with e1 e2; subst e1 e2
            have c2 := hcell2 wr Hb6.out
            have hL2 : E[it E i t].length ≤ 1000 := Hrow.out _ (List.getElem_mem hyl)
            have Hrc2 := Lib.hid hrc2
            have Hpk := Lib.hid (show pick E i E[it E i t] = ((it E i (t + 1) : Nat) : Int) by rw [← Hnext.out.2]; unfold nx; rw [getD_at hyl])
            have Hity := Lib.hid (rfl : it E i t = it E i t)
            generalize E[it E i t] = L2 at *
            generalize hyy : it E i t = y at *
            have Hy := Lib.hid hyy
            obtain ⟨wq, hwq⟩ : ∃ wq : World, wq = wr := ⟨_, rfl⟩
            subst hwq
            clear hqt hown hJ hb5 hlast hcell2 hrc2 hyl hyy
            go_wp2
            go_loopw [58, 9] (fun a b wr => ∃ m : Nat, a = .int .i64 m ∧ b = .int .i64 (pick E i (L2.take m)) ∧ m ≤ L2.length ∧ Below wq.heap.size wq wr) (fun a _ _ => L2.length - (intOf a).toNat)
            case atStart => exact ⟨0, rfl, rfl, by omega, Below.refl _ _⟩
            case round =>
              obtain ⟨m, rfl, rfl, hm, hb7⟩ := hrel
              have Hb7 := Lib.hid hb7
              have hpl := pick_lo E i (L2.take m)
              clear hb7
              by_cases hlm : m < L2.length
              · obtain ⟨a9, o9, he9, -, z9⟩ := (Hrc2.out wr (Hb6.out.trans (Hb7.out.mono Hb6.out.size))).at hlm
                subst he9
                have Hst := Lib.hid (pick_take (E := E) (tg := i) hlm)
                have HD7 := Lib.hid (HD.out.below (w' := wr) (Hb5.out.trans (Hb7.out.mono Hb5.out.size)))
                generalize L2[m] = x at *
                generalize pick E i (L2.take m) = b at *
                have Hpl := Lib.hid hpl
                have Hnode := Lib.hid (node_any (some ⟨ae, oe, none⟩) n c x)
                clear hpl
                by_cases hno : nodeB n x = true
                · skip
                  obtain ⟨hx0, hxn⟩ := nodeB_iff.1 hno
                  obtain ⟨xn, rfl⟩ : ∃ xn : Nat, x = (xn : Int) := ⟨x.toNat, by omega⟩
                  have hxl : xn < n := by omega
                  rw [hno] at Hnode
                  have Hf := Lib.hid (stepP_is (E := E) (tg := i) (b := b) (x := (xn : Int)) (by rw [← Hn.out]; exact hno))
                  rw [Int.toNat_natCast] at Hf
                  have zx := HD7.out.cell hxl
                  generalize sd E i xn = dx at *
                  clear hno hx0 hxn
                  by_cases hd : 0 ≤ dx
                  · have d2 : decide (0 ≤ dx) = true := by simp [hd]
                    rcases Hpl.out with hbm | ⟨hb0, hbn⟩
                    · subst hbm
                      have Hg := Lib.hid (show stepP E i (-1) (xn : Int) = (xn : Int) by rw [Hf.out, if_pos ⟨hd, .inl (by omega)⟩])
                      skip
                      clear Hf
                      go_wp2_with (first
                        | ((with_reducible refine Lex.at_region ?_); with_reducible refine Lex.wp_region_lex (by kernel_rfl) (by decide +kernel) ?_)
                        | ((with_reducible refine Lex.at_fin ?_); with_reducible refine Lex.fin_on (by kernel_rfl) ?_)
                        | (go_at_call 23; refine (Hnode.out _).mono ?_; rintro e w6 ⟨rfl, rfl⟩))
                      exact ⟨⟨m + 1, by go_num, by rw [Hst.out, Hg.out], by omega, Hb7.out.drew⟩, by simp [intOf]; omega⟩
                    · obtain ⟨bn, rfl⟩ : ∃ bn : Nat, b = (bn : Int) := ⟨b.toNat, by omega⟩
                      have hbl : bn < n := by have := Hn.out; omega
                      rw [Int.toNat_natCast] at Hf
                      have zb := HD7.out.cell hbl
                      have d3 : decide ((bn : Int) < 0) = false := by simp
                      generalize sd E i bn = dd at *
                      clear hb0 hbn Hpl
                      by_cases h1 : dx < dd
                      · have d4 : decide (dx < dd) = true := by simp [h1]
                        have Hg := Lib.hid (show stepP E i (bn : Int) (xn : Int) = (xn : Int) by rw [Hf.out, if_pos ⟨hd, .inr (.inl h1)⟩])
                        skip
                        clear Hf
                        go_wp2_with (first
                          | ((with_reducible refine Lex.at_region ?_); with_reducible refine Lex.wp_region_lex (by kernel_rfl) (by decide +kernel) ?_)
                          | ((with_reducible refine Lex.at_fin ?_); with_reducible refine Lex.fin_on (by kernel_rfl) ?_)
                          | (go_at_call 23; refine (Hnode.out _).mono ?_; rintro e w6 ⟨rfl, rfl⟩))
                        exact ⟨⟨m + 1, by go_num, by rw [Hst.out, Hg.out], by omega, Hb7.out.drew⟩, by simp [intOf]; omega⟩
                      · have d4 : decide (dx < dd) = false := by simp; omega
                        by_cases h2 : dx = dd
                        · have d5 : (dx == dd) = true := by simp [h2]
                          by_cases h3 : xn < bn
                          · have d6 : decide (xn < bn) = true := by simp [h3]
                            have Hg := Lib.hid (show stepP E i (bn : Int) (xn : Int) = (xn : Int) by rw [Hf.out, if_pos ⟨hd, .inr (.inr ⟨h2, by omega⟩)⟩])
                            clear h2
                            skip
                            clear Hf
                            go_wp2_with (first
                              | ((with_reducible refine Lex.at_region ?_); with_reducible refine Lex.wp_region_lex (by kernel_rfl) (by decide +kernel) ?_)
                              | ((with_reducible refine Lex.at_fin ?_); with_reducible refine Lex.fin_on (by kernel_rfl) ?_)
                              | (go_at_call 23; refine (Hnode.out _).mono ?_; rintro e w6 ⟨rfl, rfl⟩))
                            exact ⟨⟨m + 1, by go_num, by rw [Hst.out, Hg.out], by omega, Hb7.out.drew⟩, by simp [intOf]; omega⟩
                          · have d6 : decide (xn < bn) = false := by simp; omega
                            have Hg := Lib.hid (show stepP E i (bn : Int) (xn : Int) = (bn : Int) by rw [Hf.out, if_neg (by rintro ⟨_, h | h | ⟨_, h⟩⟩ <;> omega)])
                            clear h2
                            skip
                            clear Hf
                            go_wp2_with (first
                              | ((with_reducible refine Lex.at_region ?_); with_reducible refine Lex.wp_region_lex (by kernel_rfl) (by decide +kernel) ?_)
                              | ((with_reducible refine Lex.at_fin ?_); with_reducible refine Lex.fin_on (by kernel_rfl) ?_)
                              | (go_at_call 23; refine (Hnode.out _).mono ?_; rintro e w6 ⟨rfl, rfl⟩))
                            exact ⟨⟨m + 1, by go_num, by rw [Hst.out, Hg.out], by omega, Hb7.out.drew⟩, by simp [intOf]; omega⟩
                        · have d5 : (dx == dd) = false := by simp [h2]
                          have Hg := Lib.hid (show stepP E i (bn : Int) (xn : Int) = (bn : Int) by rw [Hf.out, if_neg (by rintro ⟨_, h | h | ⟨h, _⟩⟩ <;> omega)])
                          skip
                          clear Hf
                          go_wp2_with (first
                            | ((with_reducible refine Lex.at_region ?_); with_reducible refine Lex.wp_region_lex (by kernel_rfl) (by decide +kernel) ?_)
                            | ((with_reducible refine Lex.at_fin ?_); with_reducible refine Lex.fin_on (by kernel_rfl) ?_)
                            | (go_at_call 23; refine (Hnode.out _).mono ?_; rintro e w6 ⟨rfl, rfl⟩))
                          exact ⟨⟨m + 1, by go_num, by rw [Hst.out, Hg.out], by omega, Hb7.out.drew⟩, by simp [intOf]; omega⟩
                  · have d2 : decide (0 ≤ dx) = false := by simp; omega
                    have Hg := Lib.hid (show stepP E i b (xn : Int) = b by rw [Hf.out, if_neg (by rintro ⟨h, _⟩; omega)])
                    skip
                    clear Hf
                    go_wp2_with (first
                      | ((with_reducible refine Lex.at_region ?_); with_reducible refine Lex.wp_region_lex (by kernel_rfl) (by decide +kernel) ?_)
                      | ((with_reducible refine Lex.at_fin ?_); with_reducible refine Lex.fin_on (by kernel_rfl) ?_)
                      | (go_at_call 23; refine (Hnode.out _).mono ?_; rintro e w6 ⟨rfl, rfl⟩))
                    exact ⟨⟨m + 1, by go_num, by rw [Hst.out, Hg.out], by omega, Hb7.out.drew⟩, by simp [intOf]; omega⟩
                · have hno' : nodeB n x = false := by simpa using hno
                  rw [hno'] at Hnode
                  have Hg := Lib.hid (stepP_no (E := E) (tg := i) (b := b) (x := x) (by rw [← Hn.out]; exact hno'))
                  clear hno hno'
                  go_wp2_with (first
                    | ((with_reducible refine Lex.at_region ?_); with_reducible refine Lex.wp_region_lex (by kernel_rfl) (by decide +kernel) ?_)
                    | ((with_reducible refine Lex.at_fin ?_); with_reducible refine Lex.fin_on (by kernel_rfl) ?_)
                    | (go_at_call 23; refine (Hnode.out _).mono ?_; rintro e w6 ⟨rfl, rfl⟩))
                  exact ⟨⟨m + 1, by go_num, by rw [Hst.out, Hg.out], by omega, Hb7.out.drew⟩, by simp [intOf]; omega⟩
              · have hmL : m = L2.length := by omega
                have hpe : pick E i (L2.take m) = ((it E i (t + 1) : Nat) : Int) := by rw [hmL, List.take_length]; exact Hpk.out
                have dmm : decide (m < L2.length) = false := by simp; omega
                rw [hpe]
                rw [hpe] at hpl
                have Ho7 := Lib.hid (ownsRow_below Ho.out Hb7.out (Nat.le_refl _))
                have Hb8 := Lib.hid (Hb5.out.trans (Hb7.out.mono Hb5.out.size))
                generalize hz : it E i (t + 1) = z at *
                have Hz := Lib.hid hz
                clear hpe hmL hz
                by_cases hzi : z = i
                · have d9 : ((z : Int) == (i : Int)) = true := by simp [hzi]
                  have Hout := Lib.hid (Hnext.out.1.out (by rw [Hz.out]; exact hzi) HiE.out Hnx.out Hno.out)
                  clear hzi
                  go_wp2
                  go_ret
                  exact ⟨_, _, Hout.out.1, rfl, own_is (by rw [itL_len]; exact Ho7.out), Hout.out.2, Hb3.out.trans (Hb8.out.mono Hb3.out.size)⟩
                · have d9 : ((z : Int) == (i : Int)) = false := by simp; omega
                  have HJ2 := Lib.hid (show ItJ E i (t + 1) from ⟨Hnext.out.1.lt, .inr ⟨Hnext.out.1, by rw [Hz.out]; exact hzi⟩, Hnx.out⟩)
                  have hbd : t + 1 + 1 ≤ 67108864 := by omega
                  have b9 : Below wr.heap.size wr (wr.alloc (.cells #[.int .i64 z] 3)) := (Below.refl _ _).alloc (Nat.le_refl _) _
                  have n9 := heap_alloc_new wr (.cells #[.int .i64 z] 3)
                  have Ho9 := Lib.hid (ownsRow_below Ho7.out b9 (Nat.le_refl _)); have Hb9 := Lib.hid (Hb8.out.step b9)
                  have Hrc9 := Lib.hid (show RC (wr.alloc (.cells #[.int .i64 z] 3)) 1 (some ⟨wr.heap.size, 0, none⟩) 1 (ic [(z : Int)]) from RC.row rfl n9 (fun j u hu => by simpa [ic] using hu))
                  have Hbz := Lib.hid Hb9.out.size
                  clear b9 n9 hzi
                  go_wp2_with (at_builtin; go_loud (refine wpList_append_ownrc rfl (.tmp 109) (.tmp 111) 22 rfl 3 (by kernel_rfl) int_info rfl (by decide) (by decide) w3.heap.size _ (some ⟨wr.heap.size, 0, none⟩) (t + 1) 1 1 _ (ic [(z : Int)]) Hbz.out _ rfl rfl Ho9.out Hrc9.out (ic_one _) hbd ?_); intro v10 w10 ho10 hf10; have Ho10 := Lib.hid ho10; have Hf10 := Lib.hid (Hb9.out.trans (hf10.below Hbz.out (by simp) (fun g hg => (Ho9.out.lt g hg).1))); clear ho10 hf10)
                  go_roundg (n - (t + 1))
                  case rel => exact ⟨t + 1, by omega, by rw [itL_succ, Hz.out, show ic (itL E i (t + 1) ++ [(z : Int)]) = ic (itL E i (t + 1)) ++ ic [(z : Int)] by simp [ic]]; exact Ho10.out, HJ2.out, Hf10.out⟩
                  case measure => have := Hqt.out; omega
        · have Hnn := Lib.hid (show nx E i i < 0 by
            rcases Int.lt_or_le (nx E i i) 0 with h | h
            · exact h
            · exact absurd (Hon.out.1 h) (by simp only [not_or]; exact ⟨hg1, hin⟩))
          rw [decide_eq_false hin] at Hcon
          clear hin
          go_wp2_with (go_at_call 27; refine Hcon.out.mono ?_; rintro e w2 ⟨rfl, rfl⟩)
          exact ⟨⟨i + 1, by go_num, rfl, by omega, fun j hj => by
            by_cases e : j = i
            · subst e; exact Hnn.out
            · exact Hno.out j (by omega), Hb.out⟩, by simp [intOf]; omega⟩
    · have hin : i = n := by omega
      have dii : decide (i < n) = false := by simp; omega
      have Hno2 := Lib.hid (show ∀ j, j < E.length → nx E j j < 0 from fun j hj => Hno.out j (by have := Hn.out; omega))
      clear hin
      go_wp2
      go_ret
      exact ⟨[], _, .inl ⟨rfl, Hno2.out⟩, rfl, IS.nil _, by simp, Hb1.out.trans (Hb.out.mono Hb1.out.size)⟩
end Go.Proofs.Yteejlibiidiibaa
