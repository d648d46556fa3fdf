/-
  Walks: the law on shortest cycles.
-/
import Derived.Test.YteejlibiidiibaaX4
namespace Go.Proofs.Yteejlibiidiibaa
open Go.RowKit
set_option maxRecDepth 100000
set_option maxHeartbeats 16000000 in
theorem shortlaw_any (w : World) (v : Value) (L : List Int) (hL : IS w v L) (hl : L.length ≤ 9223372036854775807) :
    Calls Try.prog 7 #[v] w (ER true w) := by
  have HL := Lib.hid hL
  obtain ⟨pl, cl, rfl, -, -⟩ := hL
  go_enter Try.func7, Try.ntmps7
  go_upto_region 3 with (first
    | (go_at_call 8; refine (graph_any w _ L HL.out hl).mono ?_; rintro e w1 ⟨E, p1, c1, rfl, hg1, hs1, hn1, hr1, hb1⟩; have Hg1 := Lib.hid hg1; have Hs1 := Lib.hid hs1; have Hr1 := Lib.hid hr1; have Hb1 := Lib.hid hb1; clear hg1 hs1 hr1 hb1)
    | (go_at_call 15; refine (cycle_any w1 p1 _ c1 E Hg1.out Hs1.out (by omega) Hr1.out).mono ?_; rintro e w2 ⟨xs, v2, hcy, rfl, his, hlx, hb2⟩; have Hcy := Lib.hid hcy; have Hi2 := Lib.hid his; have Hb2 := Lib.hid hb2; obtain ⟨p2, c2, rfl, -, -⟩ := his; clear hcy hb2))
  have Hg2 := Lib.hid (Hg1.out.below Hb2.out)
  have Hb02 := Lib.hid (Hb1.out.step Hb2.out)
  clear Hg1 Hb1 Hb2
  rcases Hcy.out.law with ⟨rfl, hno⟩ | ⟨hpos, hcw⟩
  · have Hno := Lib.hid hno; clear hno
    go_wp2_with (go_at_call 11; refine (comps_any w2 p1 _ c1 E Hg2.out Hs1.out (by omega) Hr1.out).mono ?_; rintro e w3 ⟨out, p3, c3, rfl, hg3, ht3, ha3, hb3⟩; have Hg3 := Lib.hid hg3; have Ht3 := Lib.hid ht3; have Hb3 := Lib.hid hb3; clear hg3 ht3 ha3 hb3)
    have Hol : out.length ≤ E.length := Ht3.out.len
    go_loopw [22] (fun i wr => ∃ t : Nat, i = .int .i64 t ∧ t ≤ out.length ∧ Below w3.heap.size w3 wr) (fun i _ => out.length - (intOf i).toNat)
    case atStart => exact ⟨0, rfl, by omega, Below.refl _ _⟩
    case round =>
      obtain ⟨t, rfl, ht, hb⟩ := hrel
      have Hb := Lib.hid hb; clear hb
      by_cases hlt : t < out.length
      · obtain ⟨i, hi, hC, -, -⟩ := Ht3.out.at hlt
        rw [cls_one hi Hno.out] at hC
        obtain ⟨a, o, q, cq, rfl, ha, hq, hcell, hrc⟩ := Hg3.out.row (k := t) hlt
        rw [hC] at hcell hrc hq
        have z0 := hcell wr Hb.out
        have HF := Lib.hid (show IS wr (.slice q 1 cq) [(i : Int)] from ⟨q, cq, rfl, hq, hrc wr Hb.out⟩)
        have Hgr := Lib.hid ((Hg2.out.below Hb3.out).below Hb.out)
        have Hrec := Lib.hid (nx_rec hi (Hno.out i hi))
        have Hwf := Lib.hid (show ∀ x ∈ ([(i : Int)] : List Int), wfI x from fun x hx => by
          rw [List.mem_singleton] at hx; subst hx
          exact wfI_small (by omega) (by omega))
        simp only [List.length_cons, List.length_nil, Nat.zero_add] at z0
        clear hcell hrc hC hq hi
        go_wp2_with (go_at_call 19; refine (rec_any wr p1 _ c1 E [(i : Int)] _ Hgr.out Hs1.out HF.out (by simp) Hwf.out).mono ?_; rintro e w4 ⟨rfl, hb4⟩; rw [Hrec.out]; have Hb4 := Lib.hid (Hb.out.step hb4); clear hb4)
        exact ⟨⟨t + 1, by go_num, by omega, Hb4.out⟩, by simp [intOf]; omega⟩
      · obtain rfl : t = out.length := by omega
        have Hbx := Lib.hid ((Hb02.out.step Hb3.out).step Hb.out)
        go_wp2_with (first
          | (go_at_call 13; refine (awake_any _).mono ?_; rintro e w9 ⟨rfl, hb9⟩; have Hb9 := Lib.hid (Hbx.out.step hb9); clear hb9))
        go_ret
        exact ⟨rfl, Hb9.out⟩
  · have Hcw := Lib.hid hcw; clear hcw
    have d0 : ((xs.length : Int) == 0) = false := by rw [beq_eq_false_iff_ne]; omega
    have d0' : (xs.length == 0) = false := by rw [beq_eq_false_iff_ne]; omega
    go_wp2
    go_loopw [38] (fun i wr => ∃ t : Nat, i = .int .i64 t ∧ t ≤ xs.length ∧ Below w2.heap.size w2 wr) (fun i _ => xs.length - (intOf i).toNat)
    case atStart => exact ⟨0, rfl, by omega, Below.refl _ _⟩
    case round =>
      obtain ⟨t, rfl, ht, hb⟩ := hrel
      have Hb := Lib.hid hb; clear hb
      by_cases hlt : t < xs.length
      · have Hir := Lib.hid (Hi2.out.below Hb.out)
        obtain ⟨-, a, o, rfl, hab, zt⟩ := Hir.out.at hlt
        obtain ⟨y, hy, hyE⟩ := Hcw.out.node _ (List.getElem_mem hlt)
        rw [hy] at zt
        have hm2 : (t + 1) % xs.length < xs.length := Nat.mod_lt _ hpos
        obtain ⟨-, a', o', e9, hab2, zn⟩ := Hi2.out.at hm2
        injection e9 with e9
        injection e9 with e91 e92
        subst e91 e92
        have d1 : decide (E.length ≤ y) = false := by simp; omega
        have hnew : decide ((y : Int) ∈ xs.take t) = false := decide_eq_false (by rw [← hy]; exact Hcw.out.new t hlt)
        have hedge := Hcw.out.edge t hlt hm2 y hy
        have hgd : E.getD y [] = E[y] := by simp [List.getD, hyE]
        rw [hgd] at hedge
        obtain ⟨ae, oe, q, cq, rfl, -, hq, hcell, hrc⟩ := Hg2.out.row (k := y) hyE
        have Hcl := Lib.hid (show ∀ w', Below w2.heap.size w2 w' → w'.cell? ⟨ae, oe + y, none⟩ = some (.slice q E[y].length cq) ∧ w'.cell? ⟨a, o + (t + 1) % xs.length, none⟩ = some (.int .i64 xs[(t + 1) % xs.length]) from fun w' hb => ⟨hcell w' hb, (hb.cell (p := ⟨a, _, none⟩) hab2).trans zn⟩)
        clear zn
        have Hrow := Lib.hid (show ∀ w', Below w2.heap.size w2 w' → IS w' (.slice q E[y].length cq) E[y] from fun w' hb => ⟨q, cq, rfl, hq, hrc w' hb⟩)
        have hr9 := Hr1.out _ (List.getElem_mem hyE)
        have Htk := Lib.hid (show IS wr.drew (.slice (some ⟨a, o, none⟩) t c2) (xs.take t) from by
          obtain ⟨p9, c9, e9, h9, h10⟩ := Hir.out
          injection e9 with e1 e2 e3
          subst e1 e3
          exact ⟨_, c2, by rw [List.length_take, Nat.min_eq_left ht], by rw [List.length_take]; omega, by rw [List.length_take, Nat.min_eq_left ht]; exact h10.take ht⟩)
        have hcl : t ≤ c2 := by
          obtain ⟨p9, c9, e9, h9, h10⟩ := Hir.out
          injection e9 with e1 e2 e3
          omega
        generalize xs[(t + 1) % xs.length] = z at *
        generalize E[y] = R at *
        have hmem : decide (z ∈ R) = true := decide_eq_true hedge
        have Hnew := Lib.hid hnew; have Hmem := Lib.hid hmem
        have hrem : (((t : Int) + 1).tmod (xs.length : Int)) = (((t + 1) % xs.length : Nat) : Int) := rfl
        have hlxs : xs.length ≤ 9 := by omega
        generalize (t + 1) % xs.length = tn at *
        have d2 : decide ((y : Int) < 0) = false := decide_eq_false (by omega)
        clear hnew hmem hedge hgd hcell hrc hy
        go_wp2_with (first
          | ((with_reducible refine Lex.at_region ?_); with_reducible refine Lex.wp_region_lex (by kernel_rfl) (by decide +kernel) ?_)
          | ((with_reducible refine Lex.at_fin ?_); with_reducible refine Lex.fin_on (by kernel_rfl) ?_)
          | (go_at_call 21; with_reducible refine (in_any (.slice (some ⟨a, o, none⟩) t c2) (xs.take t) (y : Int) wr.drew Htk.out (by rw [List.length_take]; omega)).mono ?_; rintro e w5 ⟨rfl, hb5⟩; rw [Hnew.out]; have Hb5 := Lib.hid (Hb.out.drew.step hb5); obtain ⟨ze5, zn5⟩ := Hcl.out w5 Hb5.out; clear hb5)
          | (go_at_call 21; with_reducible refine (in_any (.slice q R.length cq) R z w5 (Hrow.out w5 Hb5.out) (by omega)).mono ?_; rintro e w6 ⟨rfl, hb6⟩; rw [Hmem.out]; have Hb6 := Lib.hid (Hb5.out.step hb6); clear hb6))
        exact ⟨⟨t + 1, by go_num, by omega, Hb6.out⟩, by simp [intOf]; omega⟩
      · obtain rfl : t = xs.length := by omega
        have Hir := Lib.hid (Hi2.out.below Hb.out)
        obtain ⟨-, a, o, rfl, hab, zt⟩ := Hir.out.at hpos
        obtain ⟨y, hy, hyE⟩ := Hcw.out.node _ (List.getElem_mem hpos)
        have Hlow := Lib.hid (show ∀ k : Nat, k < y → nx E k k < 0 from fun k hk => Hcw.out.low hpos k (by omega))
        have Hz0 := Lib.hid (show ∀ w', Below wr.heap.size wr w' → w'.cell? ⟨a, o, none⟩ = some (.int .i64 y) from fun w' hb => by
          rw [hy] at zt
          exact (hb.cell (p := ⟨a, o, none⟩) hab).trans zt)
        clear zt hy
        obtain ⟨wo, hwo⟩ : ∃ wo : World, wo = wr := ⟨_, rfl⟩
        subst hwo
        go_wp2
        go_loopw [9] (fun i wr => ∃ k : Nat, i = .int .i64 k ∧ k ≤ y ∧ Below wo.heap.size wo wr) (fun i _ => y - (intOf i).toNat)
        case atStart => exact ⟨0, rfl, by omega, Below.refl _ _⟩
        case round =>
          obtain ⟨k, rfl, hk, hb⟩ := hrel
          have Hbk := Lib.hid hb
          have z0 := Hz0.out wr hb
          clear hb
          by_cases hky : k < y
          · have hkE : k < E.length := by omega
            obtain ⟨w5, hw5⟩ : ∃ w5 : World, w5 = wr := ⟨_, rfl⟩
            subst hw5
            have Ho := Lib.hid (show Below w5.heap.size w5 (w5.alloc (.cells #[.int .i64 k] 3)) from (Below.refl _ _).alloc (Nat.le_refl _) _)
            have HF1 := Lib.hid (show IS (w5.alloc (.cells #[.int .i64 k] 3)) (.slice (some ⟨w5.heap.size, 0, none⟩) 1 1) [(k : Int)] from is_row (xs := [(k : Int)]) (heap_alloc_new w5 _) rfl)
            have Hwf := Lib.hid (show ∀ x ∈ ([(k : Int)] : List Int), wfI x from fun x hx => by
              rw [List.mem_singleton] at hx; subst hx
              exact wfI_small (by omega) (by omega))
            have Hrec := Lib.hid (nx_rec hkE (Hlow.out k hky))
            have Hg5 := Lib.hid ((Hg2.out.below Hb.out).below Hbk.out)
            have Hg6 := Lib.hid (Hg5.out.below Ho.out)
            have Hb25 := Lib.hid (Hbk.out.step Ho.out)
            go_upto_region 22 with (go_at_call 19; refine (rec_any _ p1 _ c1 E [(k : Int)] _ Hg6.out Hs1.out HF1.out (by simp) Hwf.out).mono ?_; rintro e w6 ⟨rfl, hb6⟩; rw [Hrec.out]; have Hg7 := Lib.hid (Hg6.out.below hb6); have Hb6 := Lib.hid (Hb25.out.step hb6); clear hb6)
            obtain ⟨ae, oe, q, cq, rfl, hae, hq, hcell, hrc⟩ := Hg7.out.row (k := k) hkE
            have ze := hcell w6 (Below.refl _ _)
            have Hrc := Lib.hid hrc
            have hr9 := Hr1.out _ (List.getElem_mem hkE)
            have Hno := Lib.hid (show ∀ x : Nat, (x : Int) ∈ E[k] → x < E.length → decide ((k : Int) ∈ reachL E x) = false from fun x hx hxE => decide_eq_false fun hm => by
              have h1 := Hlow.out k hky
              have h2 := nx_cyc.2 ⟨x, by simpa [List.getD, hkE] using hx, hxE, mem_reachL_nat.1 hm⟩
              omega)
            generalize E[k] = R at *
            clear hcell hrc Ho HF1 Hg6 Hb25 z0
            go_wp2
            go_loopw [91] (fun j wr => ∃ m : Nat, j = .int .i64 m ∧ m ≤ R.length ∧ Below w6.heap.size w6 wr) (fun j _ => R.length - (intOf j).toNat)
            case atStart => exact ⟨0, rfl, by omega, Below.refl _ _⟩
            case round =>
              obtain ⟨m, rfl, hm, hb⟩ := hrel
              have Hb9 := Lib.hid hb; clear hb
              by_cases hml : m < R.length
              · obtain ⟨aq, oq, rfl, haq, zk⟩ := (Hrc.out wr Hb9.out).at hml
                have Hmem := Lib.hid (List.getElem_mem hml)
                generalize R[m] = x at *
                by_cases hx0 : 0 ≤ x
                · by_cases hxn : x < (E.length : Int)
                  · obtain ⟨n, rfl⟩ : ∃ n : Nat, x = (n : Int) := ⟨x.toNat, by omega⟩
                    have hnE : n < E.length := by omega
                    have d1 : decide (n < E.length) = true := by simp; omega
                    have Hd := Lib.hid (Hno.out n Hmem.out hnE)
                    clear hxn
                    have ho : Below wr.heap.size wr (wr.alloc (.cells #[.int .i64 n] 3)) := (Below.refl _ _).alloc (Nat.le_refl _) _
                    have HF1 := Lib.hid (show IS (wr.alloc (.cells #[.int .i64 n] 3)) (.slice (some ⟨wr.heap.size, 0, none⟩) 1 1) [(n : Int)] from is_row (xs := [(n : Int)]) (heap_alloc_new wr _) rfl)
                    have Hga := Lib.hid (Hg7.out.below (Hb9.out.step ho))
                    have Hba := Lib.hid (Hb9.out.step ho)
                    clear ho
                    go_wp2_with (first
                      | ((with_reducible refine Lex.at_region ?_); with_reducible refine Lex.wp_region_lex (by kernel_rfl) (by decide +kernel) ?_)
                      | ((with_reducible refine Lex.at_fin ?_); with_reducible refine Lex.fin_on (by kernel_rfl) ?_)
                      | (go_at_call 17; refine (reach_any _ _ _ c1 E [(n : Int)] _ Hga.out Hs1.out HF1.out (by simp)).mono ?_; rintro e w8 h8; obtain ⟨p8, c8, rfl, hi8, hb8⟩ := h8.is; have Hi8 := Lib.hid hi8; have Hb8 := Lib.hid (Hba.out.step hb8); clear hi8 hb8 h8)
                      | (go_at_call 21; refine (in_any _ _ _ w8 Hi8.out (Nat.le_trans (marked_len _ _) (Nat.le_trans hn1 (by decide)))).mono ?_; rintro e w10 ⟨rfl, hb10⟩; rw [show decide ((k : Int) ∈ marked E.length (rb E (inS [(n : Int)]))) = false from Hd.out]; have Hb10 := Lib.hid (Hb8.out.step hb10); clear hb10))
                    exact ⟨⟨m + 1, by go_num, by omega, Hb10.out⟩, by simp [intOf]; omega⟩
                  · have d1 : decide (x < (E.length : Int)) = false := by simp; omega
                    go_wp2
                    exact ⟨⟨m + 1, by go_num, by omega, Hb9.out⟩, by simp [intOf]; omega⟩
                · have d0 : decide (0 ≤ x) = false := by simp; omega
                  go_wp2
                  exact ⟨⟨m + 1, by go_num, by omega, Hb9.out⟩, by simp [intOf]; omega⟩
              · obtain rfl : m = R.length := by omega
                have Hbz := Lib.hid (Hb6.out.step Hb9.out)
                go_wp2
                exact ⟨⟨k + 1, by go_num, by omega, Hbz.out⟩, by simp [intOf]; omega⟩
          · obtain rfl : k = y := by omega
            have Hbx := Lib.hid ((Hb02.out.step Hb.out).step Hbk.out)
            go_wp2_with (first
              | (go_at_call 13; refine (awake_any _).mono ?_; rintro e w9 ⟨rfl, hb9⟩; have Hb9 := Lib.hid (Hbx.out.step hb9); clear hb9))
            go_ret
            exact ⟨rfl, Hb9.out⟩
end Go.Proofs.Yteejlibiidiibaa
