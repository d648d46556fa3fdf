/-
  Walks: the laws' graph.
  Walks: the laws' small.
  Walks: the laws' sameAll.
  Plain: the graph of awake.
-/
import Derived.Test.YteejlibiidiibaaV7
import Derived.Test.YteejlibiidiibaaE6
namespace Go.Proofs.Yteejlibiidiibaa
open Go.RowKit
set_option maxRecDepth 100000
theorem wrap_u64 (n : Int) : IntKind.u64.wrap n = n % 18446744073709551616 := by simp [IntKind.wrap, IntKind.bits, IntKind.signed]
/-- 'int(uint(k) % n)'. -/
theorem rem_nat (k : Int) (n : Nat) (hn : 0 < n) (hn2 : n ≤ 4095) : ∃ i : Nat, i < n ∧ wrap64 ((IntKind.u64.wrap k).tmod (n : Int)) = (i : Int) := by
  rw [wrap_u64]
  have h0 : 0 ≤ k % 18446744073709551616 := Int.emod_nonneg _ (by omega)
  rw [Int.tmod_eq_emod_of_nonneg h0]
  have h1 : 0 ≤ k % 18446744073709551616 % (n : Int) := Int.emod_nonneg _ (by omega)
  have h2 : k % 18446744073709551616 % (n : Int) < (n : Int) := Int.emod_lt_of_pos _ (by omega)
  generalize k % 18446744073709551616 % (n : Int) = x at *
  exact ⟨x.toNat, by omega, by unfold wrap64; omega⟩
theorem rem_u (k : Int) (n : Nat) (hn : 0 < n) : ∃ i : Nat, i < n ∧ (IntKind.u64.wrap k).tmod (n : Int) = (i : Int) := by
  rw [wrap_u64]
  have h0 : 0 ≤ k % 18446744073709551616 := Int.emod_nonneg _ (by omega)
  rw [Int.tmod_eq_emod_of_nonneg h0]
  have h1 : 0 ≤ k % 18446744073709551616 % (n : Int) := Int.emod_nonneg _ (by omega)
  have h2 : k % 18446744073709551616 % (n : Int) < (n : Int) := Int.emod_lt_of_pos _ (by omega)
  generalize k % 18446744073709551616 % (n : Int) = x at *
  exact ⟨x.toNat, by omega, by omega⟩
/-- A graph comes back. -/
def GO (w : World) (e : Ending) (w' : World) : Prop := ∃ E p c, e = .returned (.slice p E.length c) ∧ GS w' p E.length E ∧ SmallG E ∧ E.length ≤ 9 ∧ (∀ l ∈ E, l.length ≤ 1000) ∧ Below w.heap.size w w'
theorem GS.nil (w : World) (p : Option Addr) : GS w p 0 [] := ⟨rfl, fun k hk => by simp at hk⟩
theorem SmallG.nil : SmallG [] := ⟨by simp, by simp, by simp⟩
theorem UT.gs {w : World} {ub G B : Nat} {f : Nat → List Int} (h : UT w ub G B f) : GS w (some ⟨ub, 0, none⟩) G ((List.range G).map f) := by
  refine ⟨by simp, fun k hk => ?_⟩
  have hk' : k < G := by simpa using hk
  obtain ⟨v, h1, h2⟩ := h.cell hk'
  obtain ⟨tc, vs, h3, _⟩ := h.ex
  refine ⟨ub, 0, v, rfl, heap_lt h3, by simpa using h1, ?_⟩
  have e : ((List.range G).map f)[k] = f k := by simp
  rw [e]
  exact own_is h2
theorem GO.of {w w' : World} {ub n B : Nat} {f : Nat → List Int} {e : Ending} (h : UT w' ub n B f) (hf : ∀ k, (f k).length ≤ 1000 ∧ ∀ x ∈ f k, -1 ≤ x ∧ x ≤ 100) (hn : n ≤ 9) (hb : Below w.heap.size w w') (he : e = .returned (.slice (some ⟨ub, 0, none⟩) n n)) : GO w e w' := by
  have hm : ∀ l, l ∈ (List.range n).map f → l.length ≤ 1000 ∧ ∀ x ∈ l, -1 ≤ x ∧ x ≤ 100 := fun l hl => by
    obtain ⟨k, _, rfl⟩ := List.mem_map.1 hl
    exact hf k
  refine ⟨(List.range n).map f, some ⟨ub, 0, none⟩, n, by rw [he]; simp, by simpa using h.gs, ⟨by simp; omega, fun l hl => Nat.le_trans (hm l hl).1 (by omega), fun l hl x hx => ?_⟩, by simpa using hn, fun l hl => (hm l hl).1, hb⟩
  have := (hm l hl).2 x hx
  have h1 : IntKind.i64.min = -9223372036854775808 := by rfl
  have h2 : IntKind.i64.max = 9223372036854775807 := by rfl
  simp only [Lit.wf, h1, h2, Bool.and_eq_true, decide_eq_true_iff]
  omega
set_option maxHeartbeats 16000000 in
theorem graph_any (w : World) (v : Value) (L : List Int) (h : IS w v L) (hl : L.length ≤ 9223372036854775807) : Calls Try.prog 8 #[v] w (GO w) := by
  obtain ⟨p, c, rfl, hc, hr⟩ := h
  have R := Lib.hid hr; clear hr
  by_cases h0 : L = []
  · subst h0
    have f0 : ((([] : List Int).length : Int) == 0) = true := by simp
    go_enter Try.func8, Try.ntmps8
    go_wp2
    go_ret
    exact ⟨[], none, 0, rfl, GS.nil _ _, SmallG.nil, by simp, by simp, Below.refl _ _⟩
  · have hpos : 0 < L.length := List.length_pos_iff.2 h0
    have f0 : ((L.length : Int) == 0) = false := by simp; omega
    obtain ⟨aL, oL, rfl, haL, zL⟩ := R.out.at hpos
    have zL0 := zL
    simp only [Nat.add_zero] at zL0
    generalize L[0] = k0 at *
    go_enter Try.func8, Try.ntmps8
    go_upto_region 4 with fail
    obtain ⟨i0, hi0, e12⟩ := rem_nat k0 9 (by omega) (by omega)
    rw [show ((9 : Nat) : Int) = 9 from rfl] at e12
    rw [e12, show wrap64 ((i0 : Int) + 1) = ((i0 + 1 : Nat) : Int) by unfold wrap64; omega]
    generalize hnn : i0 + 1 = n
    have hn1 : 1 ≤ n := by omega
    have hn9 : n ≤ 9 := by omega
    have hmk1 := run_make_rows n (by omega)
    have hb1 := (Below.refl w.heap.size w).alloc (Nat.le_refl _) (.cells (madeCells #[.slice none 0 0] n) 22)
    have U1 := Lib.hid (UT.made (w := w) n)
    clear e12 hi0 hnn
    go_upto_region 5 with fail
    generalize w.alloc (.cells (madeCells #[.slice none 0 0] n) 22) = w1 at *
    have Hb1 := Lib.hid hb1
    clear hb1
    go_wp2
    go_loopw [5] (fun a wr => ∃ (i : Nat) (f : Nat → List Int), a = .int .i64 i ∧ 1 ≤ i ∧ i ≤ 41 ∧ UT wr w.heap.size n (w.heap.size + 1) f ∧ (∀ k, (f k).length ≤ i ∧ ∀ x ∈ f k, -1 ≤ x ∧ x ≤ 100) ∧ FX w.heap.size w.heap.size (w.heap.size + 1) w1 wr) (fun a _ => 43 - (intOf a).toNat)
    case atStart => exact ⟨1, fun _ => [], rfl, by omega, by omega, U1.out, fun k => by simp, FX.refl _ _ _ _⟩
    case round =>
      obtain ⟨i, f, rfl, hi1, hi, hU, hf, hF⟩ := hrel
      have HU := Lib.hid hU; have Hf := Lib.hid hf; have HF := Lib.hid hF
      have hbr := hF.below (L := w.heap.size) (Nat.le_refl _) (Nat.le_refl _) (by omega)
      have Hbr := Lib.hid (Hb1.out.trans hbr)
      clear hU hf hF hbr
      by_cases hlt : i + 1 < L.length ∧ i < 40
      · obtain ⟨hl1, hl2⟩ := hlt
        obtain ⟨a1, o1, he1, -, y1⟩ := (R.out.below Hbr.out).at (show i < L.length by omega)
        obtain ⟨a2, o2, he2, -, y2⟩ := (R.out.below Hbr.out).at hl1
        injection he1 with he1; injection he1 with e1 e2; subst e1 e2
        injection he2 with he2; injection he2 with e1 e2; subst e1 e2
        generalize L[i] = k1 at *
        generalize L[i + 1] = k2 at *
        have d1 : decide (i + 1 < L.length) = true := by simp [hl1]
        have d2 : decide (i < 40) = true := by simp [hl2]
        go_upto_region 9 with fail
        obtain ⟨j, hj, e6⟩ := rem_u k1 n (by omega)
        rw [e6]
        have HX := Lib.hid (show -1 ≤ wrap64 (wrap64 ((IntKind.u64.wrap k2).tmod ((n : Int) + 2)) - 1) ∧ wrap64 (wrap64 ((IntKind.u64.wrap k2).tmod ((n : Int) + 2)) - 1) ≤ 100 by
          obtain ⟨q, hq, e⟩ := rem_nat k2 (n + 2) (by omega) (by omega)
          rw [show ((n + 2 : Nat) : Int) = (n : Int) + 2 by omega] at e
          rw [e]
          unfold wrap64
          omega)
        clear e6
        obtain ⟨v5, zu, hv5⟩ := HU.out.cell hj
        obtain ⟨p5, c5, hve⟩ := own_slice hv5
        subst hve
        have yl := Lib.hid (show wr.drew.cell? ⟨aL, oL + (i + 1), none⟩ = _ from y2)
        have yu := Lib.hid (show wr.drew.cell? ⟨w.heap.size, j, none⟩ = _ from zu)
        have Ud := Lib.hid HU.out.drew
        have b6 : ∀ y : Int, Below wr.drew.heap.size wr.drew (wr.drew.alloc (.cells #[.int .i64 y] 3)) := fun y => (Below.refl _ _).alloc (Nat.le_refl _) _
        have Hbz := Lib.hid (show ∀ y : Int, w.heap.size + 1 ≤ (wr.drew.alloc (.cells #[.int .i64 y] 3)).heap.size from fun y => Nat.le_trans Ud.out.sz (b6 y).size)
        have Ho6 := Lib.hid (fun y => ownsRow_below (ownsRow_at hv5 (w' := wr.drew) fun _ _ => rfl) (b6 y) (Nat.le_refl _))
        have Hrc := Lib.hid (show ∀ y : Int, RC (wr.drew.alloc (.cells #[.int .i64 y] 3)) 1 (some ⟨wr.drew.heap.size, 0, none⟩) 1 (ic [y]) from fun y => RC.row rfl (heap_alloc_new wr.drew _) (fun j u hu => by simpa [ic] using hu))
        have Hov := Lib.hid (show ∀ g, (Value.slice p5 (f j).length c5).ownBlock = some g → ¬ (g = aL ∨ g = w.heap.size) from fun g hg e => by have := (hv5.lt g hg).1; omega)
        have hbd : (f j).length + 1 ≤ 67108864 := by have := (Hf.out j).1; omega
        clear b6 hv5 d2 d1
        go_wp2_with (first
          | ((with_reducible refine Lex.at_finK ?_); refine LexK.finE_on (by kernel_rfl) (by repeat first | exact LexK.finL_nil | refine LexK.finL_none rfl ?_ | refine LexK.finL_skip (by decide +kernel) ?_ | refine LexK.finL_take rfl (.inl rfl) yl.out ?_ | refine LexK.finL_take rfl (.inr rfl) yu.out ?_) ?_)
          | ((with_reducible refine Lex.at_region ?_); refine LexK.wp_region_lexE (fun x => x = aL ∨ x = w.heap.size) (by kernel_rfl) (by decide +kernel) ?_)
          | ((with_reducible refine Lex.at_wpX ?_); with_reducible refine LexK.wpX_plain (by decide +kernel) ?_)
          | ((with_reducible refine Lex.at_wpX ?_); with_reducible refine LexK.wpX_call ?_)
          | ((with_reducible refine Lex.at_wpX ?_); with_reducible refine LexK.wpX_nil ?_)
          | ((with_reducible refine Lex.at_ext ?_); with_reducible refine LexK.ext_on (LexK.Ext.alloc _ _) ?_)
          | ((with_reducible refine Lex.at_ext ?_); refine LexK.ext_on (ext_fr hf3 (by simp) Hov.out) ?_)
          | (at_builtin; go_loud (refine wpList_append_ownrc rfl (.tmp 43) (.tmp 56) 22 rfl 3 (by kernel_rfl) int_info rfl (by decide) (by decide) (w.heap.size + 1) _ (some ⟨wr.heap.size, 0, none⟩) (f j).length 1 1 _ (ic [_]) (Hbz.out _) (.slice p5 (f j).length c5) rfl rfl (Ho6.out _) (Hrc.out _) (ic_one _) hbd ?_); intro v7 w7 ho7 hf3; have HU7 := Lib.hid (Ud.out.push hj yu.out rfl hf3 ho7); obtain ⟨p7, c7, hv7⟩ := own_slice ho7; subst hv7; obtain ⟨-, z70, -⟩ : True ∧ w7.cell? ⟨w.heap.size, j, none⟩ = some (.slice p5 (f j).length c5) ∧ True := ⟨trivial, (cell_at HU7.out.1).trans yu.out, trivial⟩; have z71 : w7.frozen? ⟨w.heap.size, j, none⟩ = false := (by have h1 := Ud.out.free j; simp only [World.frozen?] at h1 ⊢; rw [HU7.out.1]; exact h1); clear ho7))
        obtain ⟨g1, g2, g3, g4, g5⟩ := HU7.out
        refine ⟨⟨i + 2, _, by go_num, by omega, by omega, g2, fun k => ?_, ((HF.out.drew).trans (FX.of_below g4)).trans (FX.of_tch g5 (.inl rfl))⟩, by simp [intOf]; omega⟩
        have h1 := Hf.out k
        split
        · refine ⟨by simp; omega, fun x hx => ?_⟩
          rcases List.mem_append.1 hx with hx | hx
          · exact h1.2 x hx
          · rw [List.mem_singleton] at hx; subst hx; exact HX.out
        · exact ⟨by omega, h1.2⟩
      · by_cases hl1 : i + 1 < L.length
        · have hl2 : ¬ i < 40 := fun h => hlt ⟨hl1, h⟩
          have d1 : decide (i + 1 < L.length) = true := by simp [hl1]
          have d2 : decide (i < 40) = false := by simp; omega
          go_wp2
          go_ret
          exact GO.of HU.out (fun k => ⟨Nat.le_trans (Hf.out k).1 (by omega), (Hf.out k).2⟩) hn9 Hbr.out rfl
        · have d1 : decide (i + 1 < L.length) = false := by simp; omega
          go_wp2
          go_ret
          exact GO.of HU.out (fun k => ⟨Nat.le_trans (Hf.out k).1 (by omega), (Hf.out k).2⟩) hn9 Hbr.out rfl
end Go.Proofs.Yteejlibiidiibaa

namespace Go.Proofs.Yteejlibiidiibaa
open Go.RowKit
set_option maxRecDepth 100000
theorem RC.take {w : World} {p : Option Addr} {n : Nat} {xs : List Int} (h : RC w 1 p n (ic xs)) {m : Nat} (hm : m ≤ xs.length) : RC w 1 p m (ic (xs.take m)) := by
  have hl : (ic xs).length = n * 1 := h.1
  rw [ic_len, Nat.mul_one] at hl
  refine ⟨by rw [ic_len, List.length_take]; omega, fun h0 => ?_⟩
  obtain ⟨a, o, h1, h2, h3⟩ := h.2 (by omega)
  refine ⟨a, o, h1, h2, fun j u hu => h3 j u ?_⟩
  rw [← hu]
  have hj : j < m := by
    have := (List.getElem?_eq_some_iff.1 hu).1
    rw [ic_len, List.length_take] at this
    omega
  simp only [ic, List.map_take]
  rw [List.getElem?_take, if_pos hj]
set_option maxHeartbeats 16000000 in
theorem small_any (w : World) (p : Option Addr) (n c : Nat) (E : Gr) (h : GS w p n E) (hn : n ≤ 9223372036854775807) (hrow : ∀ l ∈ E, l.length ≤ 9223372036854775807) (hwf : ∀ l ∈ E, ∀ x ∈ l, (Lit.int .i64 x).wf = true) : Calls Try.prog 9 #[.slice p n c] w (GO w) := by
  have Hn := Lib.hid h.len
  have H := Lib.hid h; have Hrow := Lib.hid hrow; have Hwf := Lib.hid hwf
  clear h hrow hwf
  go_enter Try.func9, Try.ntmps9
  go_wp2
  go_loopw [8, 3] (fun a o wr => ∃ (k : Nat) (out : Gr), a = .int .i64 k ∧ k ≤ n ∧ OutV wr w.heap.size o out ∧ out.length ≤ k ∧ out.length ≤ 8 ∧ (∀ l ∈ out, l.length ≤ 8 ∧ ∀ x ∈ l, (Lit.int .i64 x).wf = true) ∧ Below w.heap.size w wr) (fun a _ _ => n - (intOf a).toNat)
  case atStart => exact ⟨0, [], rfl, by omega, OutV.nil _ _, by simp, by simp, by simp, Below.refl _ _⟩
  case round =>
    obtain ⟨k, out, rfl, hk, hO, hol, ho8, hall, hb⟩ := hrel
    have HO := Lib.hid hO; have Hall := Lib.hid hall; have Hb := Lib.hid hb
    obtain ⟨po, co, rfl, hgs⟩ := hO.gs
    have Hgs := Lib.hid hgs
    clear hO hall hb hgs
    by_cases hlt : k < n
    · have hkE : k < E.length := by rw [← Hn.out]; exact hlt
      obtain ⟨a, o, q, cq, rfl, ha, hq, hcell, hrc⟩ := H.out.row (k := k) hkE
      have hLl := Hrow.out _ (List.getElem_mem hkE)
      have HLw := Lib.hid (Hwf.out _ (List.getElem_mem hkE))
      have c0 := hcell wr Hb.out
      have Hrc := Lib.hid (hrc wr Hb.out)
      generalize E[k] = L at *
      clear hrc hcell
      by_cases hk8 : k < 8
      · have d1 : decide (k < 8) = true := by simp [hk8]
        have hmle : (min (L.length : Int) 8).toNat ≤ 8 := by omega
        have hmll : (min (L.length : Int) 8).toNat ≤ L.length := by omega
        have Hsrc := Lib.hid (Hrc.out.take hmll)
        have Hlen := Lib.hid (show (L.take (min (L.length : Int) 8).toNat).length = (min (L.length : Int) 8).toNat by rw [List.length_take]; omega)
        have HCw := Lib.hid (show (L.take (min (L.length : Int) 8).toNat).length ≤ 8 ∧ ∀ x ∈ L.take (min (L.length : Int) 8).toNat, (Lit.int .i64 x).wf = true from ⟨by rw [Hlen.out]; exact hmle, fun x hx => HLw.out x (List.mem_of_mem_take hx)⟩)
        obtain ⟨gs, g1, g2⟩ := HO.out.ex
        have Hg1 := Lib.hid g1; have Hg2 := Lib.hid g2
        have hm0 : (min (L.length : Int) 8).toNat = 0 ∨ 0 < 0 + (min (L.length : Int) 8).toNat := by omega
        have hbd1 : 0 + (min (L.length : Int) 8).toNat ≤ 67108864 := by omega
        have hbd : out.length + 1 ≤ 67108864 := by omega
        clear g1 g2 hmle hmll
        go_wp2_with (first
          | (at_builtin; refine wpList_append_rc rfl (.const (.slice none 0 0)) (.tmp 20) 22 rfl 3 (by kernel_rfl) int_info (by decide) _ none q 0 (min (L.length : Int) 8).toNat 0 cq [] (ic (L.take (min (L.length : Int) 8).toNat)) rfl rfl (RC.nil _ _ _) Hsrc.out (ic_one _) (Nat.le_refl _) hm0 hbd1 ?_; intro A7 c7 w7 _ hrt7 hc7 hb7; obtain ⟨n7, hn7⟩ : ∃ n7, n7 = 0 + (min (L.length : Int) 8).toNat := ⟨_, rfl⟩; rw [← hn7]; have HI7 := Lib.hid (show I3 w7 (Value.slice A7 n7 c7) (L.take (min (L.length : Int) 8).toNat) from ⟨A7, c7, by rw [hn7, Hlen.out, Nat.zero_add], by rw [Hlen.out]; omega, by have h9 := hrt7 (RT.nil _ _ _ _); rw [Nat.zero_add, List.nil_append] at h9; rw [Hlen.out]; exact h9⟩); have Hone := Lib.hid (show ∀ u ∈ [(Value.slice A7 n7 c7)], u.oneCell' = true by simp [Value.oneCell']); have Hb7 := Lib.hid (Hb.out.step hb7); have HO7 := Lib.hid (HO.out.below hb7); have Hg17 := Lib.hid (ownsRow_below Hg1.out hb7 (Nat.le_refl _)); have Hg27 := Lib.hid (show ∀ (t : Nat) (C : List Int), out[t]? = some C → ∃ u, gs[t]? = some u ∧ I3 w7 u C from fun t C ht => by obtain ⟨u, h1, h2⟩ := Hg2.out t C ht; exact ⟨u, h1, h2.below hb7⟩); clear hrt7 hc7 hb7 hn7)
          | (at_builtin; go_loud (refine wpList_append_ownrc rfl (.tmp 15) (.tmp 22) 23 rfl 22 (by kernel_rfl) slice_info rfl (by decide) (by decide) w.heap.size _ (some ⟨w7.heap.size, 0, none⟩) out.length 1 1 gs [(Value.slice A7 n7 c7)] (Nat.le_trans Hb7.out.size (Below.size ((Below.refl _ _).alloc (Nat.le_refl _) _))) (.slice po out.length co) rfl rfl (ownsRow_below Hg17.out ((Below.refl _ _).alloc (Nat.le_refl _) _) (Nat.le_refl _)) (RC.row (e := 22) rfl (heap_alloc_new w7 _) (fun j u hu => by simpa using hu)) Hone.out hbd ?_); intro v8 w8 ho8 hf8; have Ho8 := Lib.hid ho8; have Hf8 := Lib.hid hf8; clear ho8 hf8))
        have b9 : Below w7.heap.size w7 (w7.alloc (.cells #[(Value.slice A7 n7 c7)] 22)) := (Below.refl _ _).alloc (Nat.le_refl _) _
        have HO8 := HO7.out.push HI7.out gs Hg17.out Hg27.out rfl Hf8.out Ho8.out
        have hb9 := (Hb7.out.step b9).trans (Hf8.out.below (Nat.le_trans Hb7.out.size b9.size) (by simp) fun g hg => (Hg17.out.lt g hg).1)
        exact ⟨⟨k + 1, out ++ [L.take (min (L.length : Int) 8).toNat], by go_num, by omega, HO8, by simp; omega, by simp; omega, fun l hl => by
          rcases List.mem_append.1 hl with hl | hl
          · exact Hall.out l hl
          · rw [List.mem_singleton] at hl; subst hl; exact HCw.out, hb9⟩, by simp [intOf]; omega⟩
      · have d1 : decide (k < 8) = false := by simp; omega
        go_wp2
        exact ⟨⟨k + 1, out, by go_num, by omega, HO.out, by omega, ho8, Hall.out, Hb.out⟩, by simp [intOf]; omega⟩
    · obtain rfl : k = n := by omega
      have Hlow := Lib.hid ho8
      go_wp2
      go_ret
      exact ⟨out, po, co, rfl, Hgs.out, ⟨by omega, fun l hl => Nat.le_trans (Hall.out l hl).1 (by omega), fun l hl => (Hall.out l hl).2⟩, by omega, fun l hl => Nat.le_trans (Hall.out l hl).1 (by omega), Hb.out⟩
end Go.Proofs.Yteejlibiidiibaa

namespace Go.Proofs.Yteejlibiidiibaa
open Go.RowKit
set_option maxRecDepth 100000
set_option maxHeartbeats 16000000 in
theorem sameall_any (w : World) (p1 p2 : Option Addr) (n c1 c2 : Nat) (X : Gr) (h1 : GS w p1 n X) (h2 : GS w p2 n X) (hn : n ≤ 100000) (hr : ∀ l ∈ X, l.length ≤ 1000000) :
    Calls Try.prog 10 #[.slice p1 n c1, .slice p2 n c2] w (ER true w) := by
  have Hn := Lib.hid h1.len
  have H1 := Lib.hid h1; have H2 := Lib.hid h2; have Hr := Lib.hid hr
  have f1 : ((n : Int) != (n : Int)) = false := by simp
  clear h1 h2 hr
  go_enter Try.func10, Try.ntmps10
  go_wp2
  go_loopw [13] (fun a wr => ∃ k : Nat, a = .int .i64 k ∧ k ≤ n ∧ Below w.heap.size w wr) (fun a _ => n - (intOf a).toNat)
  case atStart => exact ⟨0, rfl, by omega, Below.refl _ _⟩
  case round =>
    obtain ⟨k, rfl, hk, hb⟩ := hrel
    have Hb := Lib.hid hb; clear hb
    by_cases hlt : k < n
    · have hkX : k < X.length := by rw [← Hn.out]; exact hlt
      obtain ⟨a1, o1, v1, rfl, ha1, z1, hI1⟩ := (H1.out.below Hb.out).at' k hkX
      obtain ⟨a2, o2, v2, rfl, ha2, z2, hI2⟩ := (H2.out.below Hb.out).at' k hkX
      have hXl := Hr.out _ (List.getElem_mem hkX)
      have Hcall := Lib.hid (show ∀ w', Below wr.heap.size wr w' → Calls Try.prog 14 #[v1, v2] w' (ER true w') from fun w' hb => same_any v1 v2 X[k] w' (hI1.below hb) (hI2.below hb) hXl)
      obtain ⟨q1, d1, rfl, _, _⟩ := hI1
      obtain ⟨q2, d2, rfl, _, _⟩ := hI2
      generalize X[k].length = m at *
      have Y1 := Lib.hid (show wr.drew.cell? ⟨a1, o1 + k, none⟩ = _ from z1)
      have Y2 := Lib.hid (show wr.drew.cell? ⟨a2, o2 + k, none⟩ = _ from z2)
      have L1 := Lib.hid (show a1 < wr.drew.heap.size from ha1)
      have L2 := Lib.hid (show a2 < wr.drew.heap.size from ha2)
      have B0 := Lib.hid (show Below wr.heap.size wr wr.drew from (Below.refl _ _).drew)
      go_wp2_with (first
        | ((with_reducible refine Lex.at_finK ?_); refine LexK.finE_on (by kernel_rfl) (by repeat first | exact LexK.finL_nil | refine LexK.finL_none rfl ?_ | refine LexK.finL_skip (by decide +kernel) ?_ | refine LexK.finL_take rfl L1.out Y1.out ?_ | refine LexK.finL_take rfl L2.out Y2.out ?_) ?_)
        | ((with_reducible refine Lex.at_region ?_); refine LexK.wp_region_lexE (fun x => x < wr.drew.heap.size) (by kernel_rfl) (by decide +kernel) ?_)
        | ((with_reducible refine Lex.at_wpX ?_); with_reducible refine LexK.wpX_plain (by decide +kernel) ?_)
        | ((with_reducible refine Lex.at_wpX ?_); with_reducible refine LexK.wpX_call ?_)
        | ((with_reducible refine Lex.at_wpX ?_); with_reducible refine LexK.wpX_nil ?_)
        | ((with_reducible refine Lex.at_ext ?_); with_reducible refine LexK.ext_on Hext.out ?_)
        | (go_at_call 14; (go_loud (refine (Hcall.out _ B0.out).mono ?_)); rintro e x0 ⟨rfl, q⟩; have Hext := Lib.hid (LexK.Ext.of_below (Kp := fun x => x < wr.drew.heap.size) q (Nat.le_refl _)); have Hb3 := Lib.hid (Hb.out.trans ((B0.out.trans (q.mono B0.out.size)).mono Hb.out.size)); clear q))
      exact ⟨⟨k + 1, by go_num, by omega, Hb3.out⟩, by simp [intOf]; omega⟩
    · obtain rfl : k = n := by omega
      go_wp2
      go_ret
      exact ⟨rfl, Hb.out⟩
end Go.Proofs.Yteejlibiidiibaa

namespace Go.Proofs.Yteejlibiidiibaa
def E0 : Gr := [[1], [0, 2], []]
theorem e0_01 : Pth E0 0 1 := (Pth.refl (by decide)).step (by decide) (by decide)
theorem e0_10 : Pth E0 1 0 := (Pth.refl (by decide)).step (by decide) (by decide)
theorem e0_12 : Pth E0 1 2 := (Pth.refl (by decide)).step (by decide) (by decide)
theorem e0_2 {k : Nat} (h : Pth E0 2 k) : k = 2 := h.closed (P := fun k => k = 2) (fun _ => rfl) fun i k _ hi hk _ => by
  subst hi
  have : (k : Int) ∈ ([] : List Int) := hk
  cases this
theorem e0_lt {i : Nat} (h : i < E0.length) : i = 0 ∨ i = 1 ∨ i = 2 := by
  have : E0.length = 3 := rfl
  omega
theorem e0_c2 : cls E0 2 = [2] := by
  refine asc_ext (marked_asc _ _) (by simp) fun x => ?_
  rw [mem_cls]
  constructor
  · rintro ⟨k, rfl, h⟩
    have := e0_2 h.1
    subst this; simp
  · intro h
    exact ⟨2, by simpa using h, Mut.refl (by decide)⟩
theorem e0_c0 : cls E0 0 = [0, 1] := by
  refine asc_ext (marked_asc _ _) (by simp) fun x => ?_
  rw [mem_cls]
  constructor
  · rintro ⟨k, rfl, h⟩
    rcases e0_lt h.1.lt.2 with rfl | rfl | rfl
    · simp
    · simp
    · have := e0_2 h.2; omega
  · intro h
    rcases List.mem_cons.1 h with rfl | h
    · exact ⟨0, rfl, Mut.refl (by decide)⟩
    · exact ⟨1, by simpa using h, e0_01, e0_10⟩
theorem e0_topo : Topo E0 [[2], [0, 1]] := by
  intro t C ht
  match t, ht with
  | 0, ht =>
    have : C = [2] := by simpa using ht.symm
    subst this
    refine ⟨2, by decide, e0_c2.symm, ?_, fun k hk => ?_, fun j hj _ hr => ?_⟩
    · rintro ⟨D, h, _⟩; simp at h
    · have := e0_2 hk; subst this; exact .inr hk
    · have h2 : Pth E0 j 2 := by
        rcases (show j = 0 ∨ j = 1 by omega) with rfl | rfl
        · exact e0_01.trans e0_12
        · exact e0_12
      rcases hr 2 h2 with ⟨D, h, _⟩ | h
      · simp at h
      · have := e0_2 h; omega
  | 1, ht =>
    have : C = [0, 1] := by simpa using ht.symm
    subst this
    refine ⟨0, by decide, e0_c0.symm, ?_, fun k hk => ?_, fun j hj => by omega⟩
    · rintro ⟨D, h, h2⟩
      simp at h
      subst h
      simp at h2
    · rcases e0_lt hk.lt.2 with rfl | rfl | rfl
      · exact .inr hk
      · exact .inr e0_10
      · exact .inl ⟨[2], by simp, by simp⟩
  | t + 2, ht => simp at ht
theorem e0_all (i : Nat) (h : i < E0.length) : inn [[2], [0, 1]] i := by
  rcases e0_lt h with rfl | rfl | rfl
  · exact ⟨[0, 1], by simp, by simp⟩
  · exact ⟨[0, 1], by simp, by simp⟩
  · exact ⟨[2], by simp, by simp⟩
theorem e0_out {out : Gr} (h : Topo E0 out) (ha : ∀ i, i < E0.length → inn out i) : out = [[2], [0, 1]] := h.unique e0_topo ha e0_all
theorem e0_cyc {xs : List Int} (h : CyR E0 xs) : xs.length = 2 := by
  have n0 : nx E0 0 0 = 1 := by
    rcases nx_cases E0 0 0 with e | ⟨j, h1, h2, h3, h4⟩
    · have : 0 ≤ nx E0 0 0 := nx_cyc.2 ⟨1, by decide, by decide, e0_10⟩
      omega
    · have h3' : (j : Int) ∈ ([1] : List Int) := h3
      rw [List.mem_singleton] at h3'
      rw [h1, h3']
  have n1 : nx E0 0 1 = 0 := by
    obtain ⟨q, h1, h2, h3, h4, _⟩ := nx_some (E := E0) (tg := 0) (i := 1) (j := 0) (by decide) (by decide) (sd_ge.2 (Pth.refl (by decide)))
    rcases e0_lt h2 with rfl | rfl | rfl
    · exact h1
    · have h3' : ((1 : Nat) : Int) ∈ ([0, 2] : List Int) := h3
      simp at h3'
    · have := e0_2 (sd_ge.1 h4); omega
  have i1 : it E0 0 1 = 1 := by rw [it_one, n0]; rfl
  have i2 : it E0 0 2 = 0 := by show (nx E0 0 (it E0 0 1)).toNat = 0; rw [i1, n1]; rfl
  rcases h with ⟨_, h1⟩ | ⟨tg, L, h1, h2, h3, h4, h5, h6, rfl⟩
  · have := h1 0 (by decide); omega
  · have ht : tg = 0 := by
      rcases Nat.eq_zero_or_pos tg with h | h
      · exact h
      · have := h3 0 h; omega
    subst ht
    rw [itL_len]
    rcases Nat.lt_trichotomy L 2 with h | h | h
    · have : L = 1 := by omega
      subst this; omega
    · exact h
    · exact absurd i2 (h6 2 (by omega) h)
theorem e0_small : SmallG E0 := by
  refine ⟨by decide, ?_, ?_⟩
  · intro l hl
    simp only [E0, List.mem_cons, List.not_mem_nil, or_false] at hl
    rcases hl with rfl | rfl | rfl <;> decide
  · intro l hl
    simp only [E0, List.mem_cons, List.not_mem_nil, or_false] at hl
    rcases hl with rfl | rfl | rfl <;> decide
theorem e0_rec1 : recB E0 [0, 1] = true := by decide
theorem e0_rec2 : recB E0 [2] = false := by decide
end Go.Proofs.Yteejlibiidiibaa
