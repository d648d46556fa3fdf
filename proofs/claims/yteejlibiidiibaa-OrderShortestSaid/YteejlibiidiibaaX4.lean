/-
  Walks: the law on topological order.
-/
import Derived.Test.YteejlibiidiibaaX3
import Derived.Test.YteejlibiidiibaaY0
namespace Go.Proofs.Yteejlibiidiibaa
open Go.RowKit
set_option maxRecDepth 100000
theorem Topo.pack {E : Gr} {out : Gr} (h : Topo E out) (ha : ∀ i, i < E.length → inn out i) {i : Nat} (hi : i < out.length) :
    ∃ C : List Int, out[i] = C ∧ (∀ (k : Nat) (f : Nat → Int) (hk : k < C.length), PlI out i k f → ∃ y : Nat, C[k] = (y : Int) ∧ y < E.length ∧ f y = 0 ∧ PlI out i (k + 1) (fun m => if m = y then (i : Int) + 1 else f m)) ∧
      (∀ f : Nat → Int, PlI out i C.length f → PlI out (i + 1) 0 f) ∧ (∀ (k : Nat) (hk : k + 1 < C.length), C[k] < C[k + 1]) ∧ sumL (out.take (i + 1)) = sumL (out.take i) + C.length ∧ sumL (out.take i) + C.length ≤ E.length := by
  refine ⟨out[i], rfl, fun k f hk hf => h.elem hi hk hf, fun f hf => PlI.up hi hf, fun k hk => h.less hi hk, sumL_take hi, ?_⟩
  have h1 := sumL_take hi
  have h2 := sumL_le (out := out) (i + 1)
  have h3 := h.total ha
  omega
/-- A row of new rows, after stores into an elder block. -/
theorem GS.rowN {w : World} {p : Option Addr} {n B b k : Nat} {E : Gr} (h : GS w p n E) (hn : NG B w p n) (hb : b < B) (hk : k < E.length) :
    ∃ a o q cq, p = some ⟨a, o, none⟩ ∧ E[k].length ≤ cq ∧ ∀ w', Tch b w w' → w'.cell? ⟨a, o + k, none⟩ = some (.slice q E[k].length cq) ∧ RC w' 1 q E[k].length (ic E[k]) := by
  obtain ⟨a, o, v, h1, h2, h3, h4⟩ := h.at' k hk
  obtain ⟨q, cq, rfl, h5, h6⟩ := h4
  obtain ⟨hB, hr⟩ := hn k (by rw [h.len]; exact hk) a o _ h1 h3
  refine ⟨a, o, q, cq, h1, h5, fun w' ⟨ob, hu⟩ => ⟨(cell_at (hu.other a (by omega))).trans h3, h6.fr (by rw [hu.size]; exact Nat.le_refl _) fun a2 o2 ha2 _ => hu.other a2 ?_⟩⟩
  have := hr ⟨a2, o2, none⟩ _ cq (by rw [ha2])
  dsimp only at this
  omega
set_option maxHeartbeats 16000000 in
theorem topolaw_any (w : World) (v : Value) (L : List Int) (hL : IS w v L) (hl : L.length ≤ 9223372036854775807) :
    Calls Try.prog 6 #[v] w (ER true w) := by
  have HL := Lib.hid hL
  obtain ⟨pl, cl, rfl, -, -⟩ := hL
  go_enter Try.func6, Try.ntmps6
  go_upto_region 2 with (go_at_call 8; refine (graph_any w _ L HL.out hl).mono ?_; rintro e w1 ⟨E, p1, c1, rfl, hg1, hs1, hn1, hr1, hb1⟩; have Hg1 := Lib.hid hg1; have Hs1 := Lib.hid hs1; have Hr1 := Lib.hid hr1; have Hb1 := Lib.hid hb1; clear hg1 hs1 hr1 hb1)
  have hmk := run_make_int E.length (by omega)
  have Hmk := Lib.hid hmk
  go_upto_region 4 with fail
  have Hb2 := Lib.hid ((Below.refl w1.heap.size w1).alloc (Nat.le_refl _) (.cells (madeCells #[.int .i64 0] E.length) 3))
  have HI2 := Lib.hid (IT.made w1 E.length)
  have hsz2 : (w1.alloc (.cells (madeCells #[.int .i64 0] E.length) 3)).heap.size = w1.heap.size + 1 := by simp
  generalize w1.alloc (.cells (madeCells #[.int .i64 0] E.length) 3) = w2 at *
  have Hsz2 := Lib.hid hsz2
  have Hg2 := Lib.hid (Hg1.out.below Hb2.out)
  clear hsz2 hmk Hmk
  go_wp2_with (go_at_call 11; refine (comps_new w2 p1 _ c1 E Hg2.out Hs1.out (by omega) Hr1.out).mono ?_; rintro e w3 ⟨out, p3, c3, rfl, hg3, ht3, ha3, hb3, hn3⟩; have Hg3 := Lib.hid hg3; have Ht3 := Lib.hid ht3; have Ha3 := Lib.hid ha3; have Hb3 := Lib.hid hb3; have Hn3 := Lib.hid hn3; clear hg3 ht3 ha3 hb3 hn3)
  have HI3 := Lib.hid (HI2.out.below Hb3.out)
  have Hol : out.length ≤ E.length := Ht3.out.len
  generalize hbb : w1.heap.size = b at *
  have Hbb := Lib.hid hbb
  clear hbb
  go_loopw [22, 5] (fun i s wr => ∃ (t : Nat) (f : Nat → Int), i = .int .i64 t ∧ t ≤ out.length ∧ s = .int .i64 (sumL (out.take t) : Nat) ∧ IT wr b E.length f ∧ PlI out t 0 f ∧ Tch b w3 wr) (fun i _ _ => out.length - (intOf i).toNat)
  case atStart => exact ⟨0, fun _ => 0, rfl, by omega, by simp [sumL], HI3.out, PlI.start out, (by obtain ⟨tc, h1, _⟩ := HI3.out.ex; exact ⟨_, Upd.refl h1⟩)⟩
  case round =>
    obtain ⟨t, f, rfl, ht, rfl, hI, hP, hT⟩ := hrel
    have HI := Lib.hid hI; have HP := Lib.hid hP; have HT := Lib.hid hT
    clear hI hP hT
    by_cases hlt : t < out.length
    · obtain ⟨a, o, q, cq, rfl, hcq, hrow⟩ := Hg3.out.rowN Hn3.out (b := b) (by rw [Hsz2.out]; exact Nat.lt_succ_self b) hlt
      obtain ⟨C, hC, helem, hup, hless, hst, hsum⟩ := Ht3.out.pack Ha3.out hlt
      rw [hC] at hrow hcq
      obtain ⟨z0, -⟩ := hrow wr HT.out
      have Hrow := Lib.hid hrow; have Helem := Lib.hid helem; have Hup := Lib.hid hup; have Hless := Lib.hid hless; have Hsum := Lib.hid hst
      clear hrow helem hup hless hst hC
      generalize sumL (out.take t) = S at *
      obtain ⟨wo, hwo⟩ : ∃ wo : World, wo = wr := ⟨_, rfl⟩
      subst hwo
      go_wp2
      go_loopw [29, 5] (fun j s wr => ∃ (k : Nat) (f : Nat → Int), j = .int .i64 k ∧ k ≤ C.length ∧ s = .int .i64 ((S + k : Nat) : Int) ∧ IT wr b E.length f ∧ PlI out t k f ∧ Tch b w3 wr) (fun j _ _ => C.length - (intOf j).toNat)
      case atStart => exact ⟨0, f, rfl, by omega, by simp, HI.out, HP.out, HT.out⟩
      case round =>
        obtain ⟨k, g, rfl, hk, rfl, hI, hP, hT⟩ := hrel
        have HI5 := Lib.hid hI; have HP5 := Lib.hid hP; have HT5 := Lib.hid hT
        clear hI hP hT
        by_cases hlk : k < C.length
        · obtain ⟨y, hy, hyE, hfy, hP'⟩ := Helem.out k g hlk HP5.out
          have HP6 := Lib.hid hP'
          obtain ⟨-, hrc⟩ := Hrow.out wr HT5.out
          obtain ⟨aq, oq, rfl, haq, zk⟩ := hrc.at hlk
          have Hrc := Lib.hid hrc
          rw [hy] at zk
          have zf := HI5.out.cell hyE
          rw [hfy] at zf
          have zfr := HI5.out.free y
          have Hset := Lib.hid (HI5.out.set hyE ((t : Int) + 1))
          have d1 : decide (E.length ≤ y) = false := by simp; omega
          clear hP' hrc hfy
          by_cases hk0 : k = 0
          · have d2 : decide (0 < k) = false := by simp; omega
            clear hy hk0
            go_wp2
            exact ⟨⟨k + 1, _, by go_num, by omega, by go_num, Hset.out.1, HP6.out, HT5.out.trans Hset.out.2⟩, by simp [intOf]; omega⟩
          · obtain ⟨k2, rfl⟩ : ∃ k2, k = k2 + 1 := ⟨k - 1, by omega⟩
            have hl := Hless.out k2 hlk
            rw [hy] at hl
            obtain ⟨_, _, e9, _, zq⟩ := Hrc.out.at (m := k2) (by omega)
            injection e9 with e9
            injection e9 with e91 e92
            subst e91 e92
            generalize C[k2]'(by omega) = z at *
            have d2 : decide ((y : Int) ≤ z) = false := by simp; omega
            clear hy hl hk0
            go_wp2
            exact ⟨⟨k2 + 2, _, by go_num, by omega, by go_num, Hset.out.1, HP6.out, HT5.out.trans Hset.out.2⟩, by simp [intOf]; omega⟩
        · obtain rfl : k = C.length := by omega
          have hP' := Hup.out g HP5.out
          have Hs9 := Hsum.out
          go_wp2
          exact ⟨⟨t + 1, g, by go_num, by omega, by rw [Hs9], HI5.out, hP', HT5.out⟩, by simp [intOf]; omega⟩
    · obtain rfl : t = out.length := by omega
      have htot : sumL (out.take out.length) = E.length := by rw [List.take_length]; exact Ht3.out.total Ha3.out
      rw [htot]
      clear htot
      have Hg5 := Lib.hid (Hg1.out.below (by rw [Hbb.out]; exact (Hb2.out.trans (Hb3.out.mono (by rw [Hsz2.out]; exact Nat.le_succ b))).trans (HT.out.below (Nat.le_refl _))))
      have Hb5 := Lib.hid (((Hb1.out.step (by rw [Hbb.out]; exact Hb2.out)).step Hb3.out).trans (HT.out.below (by rw [← Hbb.out]; exact Hb1.out.size)))
      have hI5 := HI.out
      obtain ⟨w5, hw5⟩ : ∃ w5 : World, w5 = wr := ⟨_, rfl⟩
      subst hw5
      have HI5 := Lib.hid hI5
      have Hedge := Lib.hid (fun (i k : Nat) (hi : i < E.length) (hk : k < E.length) (hik : (k : Int) ∈ E[i]) => Ht3.out.edge Ha3.out HP.out hi hk hik)
      clear hI5 HT HI HI3 HI2 Hg3 Hn3 Hb2 Hb3 Hg2 Hsz2 Hbb Ht3 Ha3 Hol ht hlt HP
      go_wp2
      go_loopw [77] (fun i wr => ∃ m : Nat, i = .int .i64 m ∧ m ≤ E.length ∧ Below w5.heap.size w5 wr) (fun i _ => E.length - (intOf i).toNat)
      case atStart => exact ⟨0, rfl, by omega, Below.refl _ _⟩
      case round =>
        obtain ⟨i, rfl, hi, hb⟩ := hrel
        have Hbo := Lib.hid hb; clear hb
        by_cases hlt : i < E.length
        · obtain ⟨a, o, q, cq, rfl, ha, hq, hcell, hrc⟩ := Hg5.out.row (k := i) hlt
          have z0 := hcell wr Hbo.out
          have Hrc := Lib.hid hrc
          have hr9 := Hr1.out _ (List.getElem_mem hlt)
          have Hedge2 := Lib.hid (fun (k : Nat) (hk : k < E.length) (hik : (k : Int) ∈ E[i]) => Hedge.out i k hlt hk hik)
          clear hcell hrc
          generalize E[i] = R at *
          obtain ⟨wo, hwo⟩ : ∃ wo : World, wo = wr := ⟨_, rfl⟩
          subst hwo
          go_wp2
          go_loopw [84] (fun j wr => ∃ m : Nat, j = .int .i64 m ∧ m ≤ R.length ∧ Below w5.heap.size w5 wr) (fun j _ => R.length - (intOf j).toNat)
          case atStart => exact ⟨0, rfl, by omega, Hbo.out⟩
          case round =>
            obtain ⟨m, rfl, hm, hb⟩ := hrel
            have Hb := Lib.hid hb; clear hb
            by_cases hml : m < R.length
            · obtain ⟨aq, oq, rfl, haq, zk⟩ := (Hrc.out wr Hb.out).at hml
              have Hmem := Lib.hid (List.getElem_mem hml)
              have HIr := Lib.hid (HI5.out.below Hb.out)
              generalize R[m] = x at *
              by_cases hx0 : 0 ≤ x
              · have d0 : decide (x < 0) = false := by simp; omega
                by_cases hxn : x < (E.length : Int)
                · obtain ⟨k, rfl⟩ : ∃ k : Nat, x = (k : Int) := ⟨x.toNat, by omega⟩
                  have hkE : k < E.length := by omega
                  have d1 : decide (E.length ≤ k) = false := by simp; omega
                  have zf := HIr.out.cell hkE
                  have zi := HIr.out.cell hlt
                  clear hxn hx0 d0
                  rcases Hedge2.out k hkE Hmem.out with he | ⟨he, hp⟩
                  · have d2 : decide (f i < f k) = false := by simp; omega
                    have d3 : (f k == f i) = false := by rw [beq_eq_false_iff_ne]; omega
                    generalize f k = fk at *
                    generalize f i = fi at *
                    clear he
                    go_wp2_with (first
                      | ((with_reducible refine Lex.at_region ?_); with_reducible refine Lex.wp_region_lex (by kernel_rfl) (by decide +kernel) ?_)
                      | ((with_reducible refine Lex.at_fin ?_); with_reducible refine Lex.fin_on (by kernel_rfl) ?_))
                    exact ⟨⟨m + 1, by go_num, by omega, Hb.out.drew⟩, by simp [intOf]; omega⟩
                  · have d2 : decide (f i < f k) = false := by simp; omega
                    have d3 : (f k == f i) = true := by rw [beq_iff_eq]; exact he
                    generalize f k = fk at *
                    generalize f i = fi at *
                    clear he
                    have hmemr : decide ((i : Int) ∈ marked E.length (rb E (inS [(k : Int)]))) = true := decide_eq_true (mem_reachL_nat.2 hp)
                    have Hmr := Lib.hid hmemr; clear hmemr hp
                    have ho : Below wr.heap.size wr (wr.alloc (.cells #[.int .i64 k] 3)).drew := ((Below.refl _ _).alloc (Nat.le_refl _) _).drew
                    have HF1 := Lib.hid (show IS (wr.alloc (.cells #[.int .i64 k] 3)).drew (.slice (some ⟨wr.heap.size, 0, none⟩) 1 1) [(k : Int)] from is_row (xs := [(k : Int)]) (heap_alloc_new wr _) rfl)
                    have Hga := Lib.hid (Hg5.out.below (Hb.out.step ho))
                    have Hba := Lib.hid (Hb.out.step ho)
                    clear ho
                    go_wp2_with (first
                      | ((with_reducible refine Lex.at_region ?_); with_reducible refine Lex.wp_region_lex (by kernel_rfl) (by decide +kernel) ?_)
                      | ((with_reducible refine Lex.at_fin ?_); with_reducible refine Lex.fin_on (by kernel_rfl) ?_)
                      | (go_at_call 17; refine (reach_any _ _ _ c1 E [(k : Int)] _ Hga.out Hs1.out HF1.out (by simp)).mono ?_; rintro e w6 h6; obtain ⟨p6, c6, rfl, hi6, hb6⟩ := h6.is; have Hi6 := Lib.hid hi6; have Hb6 := Lib.hid (Hba.out.step hb6); clear hi6 hb6 h6)
                      | (go_at_call 21; refine (in_any _ _ _ w6 Hi6.out (Nat.le_trans (marked_len _ _) (Nat.le_trans hn1 (by decide)))).mono ?_; rintro e w7 ⟨rfl, hb7⟩; rw [Hmr.out]; have Hb7 := Lib.hid (Hb6.out.step hb7); clear hb7))
                    exact ⟨⟨m + 1, by go_num, by omega, Hb7.out⟩, by simp [intOf]; omega⟩
                · have d1 : decide ((E.length : Int) ≤ x) = true := by simp; omega
                  go_wp2
                  exact ⟨⟨m + 1, by go_num, by omega, Hb.out⟩, by simp [intOf]; omega⟩
              · have d0 : decide (x < 0) = true := by simp; omega
                go_wp2
                exact ⟨⟨m + 1, by go_num, by omega, Hb.out⟩, by simp [intOf]; omega⟩
            · obtain rfl : m = R.length := by omega
              go_wp2
              exact ⟨⟨i + 1, by go_num, by omega, Hb.out⟩, by simp [intOf]; omega⟩
        · obtain rfl : i = E.length := by omega
          have Hbx := Lib.hid (Hb5.out.step Hbo.out)
          go_wp2_with (first
            | (go_at_call 13; refine (awake_any _).mono ?_; rintro e w9 ⟨rfl, hb9⟩; have Hb9 := Lib.hid (Hbx.out.step hb9); clear hb9))
          go_ret
          exact ⟨rfl, Hb9.out⟩
end Go.Proofs.Yteejlibiidiibaa
