/- Walks and plain facts for the laws of membership, for all values and types that the heap holds (texts D2 F1). -/
import Derived.Test.YtjgldaaofdpcgaaGreatU37
import Derived.Test.YtjgldaaofdpcgaaGreatU46
set_option linter.unusedVariables false
set_option linter.unusedSimpArgs false
namespace Go.Proofs.YtjgldaaofdpcgaaGreat
open Go.RowKit Go.Ident
set_option maxRecDepth 100000
def TOB (B0 B : Nat) (w' : World) (v : Value) (T : Ty) : Prop := ∃ p c xs, v = .agg #[.slice p T.nodes.length c, .int .i64 T.root] ∧ w'.ownsRow B0 48 8 (.slice p T.nodes.length c) T.nodes.length xs ∧ (∀ g, (Value.slice p T.nodes.length c).ownBlock = some g → g < B) ∧ Ch 8 (NC (we (aE B0 (.slice p T.nodes.length c) (.slice none 0 0)) w')) T.nodes xs
theorem TO.tob {B0 : Nat} {w : World} {v : Value} {T : Ty} (h : TO B0 w v T) : TOB B0 w.heap.size w v T := by
  obtain ⟨p, c, xs, h1, h2, h3⟩ := h; exact ⟨p, c, xs, h1, h2, fun g hg => (h2.lt g hg).2, h3⟩
theorem TOB.below {B0 B : Nat} {w w' : World} {v : Value} {T : Ty} (h : TOB B0 B w v T) (hb : Below w.heap.size w w') : TOB B0 B w' v T := by
  obtain ⟨p, c, xs, h1, h2, h3, h4⟩ := h
  exact ⟨p, c, xs, h1, ownsRow_below h2 hb (Nat.le_refl _), h3, h4.mono fun x cs _ h => h.below (by rw [we_size]; exact we_below hb)⟩
theorem TOB.turn {B0 B : Nat} {S : SD} {w0 w1 w2 : World} {v : Value} {T : Ty} (h : TOB B0 B w0 v T) (hb : Below w0.heap.size w0 w1) (hS : w0.heap.size ≤ S.b) (hB : B ≤ w0.heap.size) (hs : SR S w1 w2) : TOB B0 B w2 v T := by
  obtain ⟨p, c, xs, h1, h2, h3, h4⟩ := h
  have k2 := ownsRow_below h2 hb (Nat.le_refl _)
  refine ⟨p, c, xs, h1, ownsRow_at k2 fun g hg => hs.block (k2.lt g hg).2 (by have := h3 g hg; omega), h3, h4.mono fun x cs _ h => ?_⟩
  have e1 := h.below (ex_step (x := S.b) hb hS)
  have e2 := e1.below (by rw [we_size]; exact hs.we (E := ex _ S.b) (by simp [ex]))
  exact e2.sub (ex_less _ _ _)
theorem TS.turn {E : Nat → Bool} {S : SD} {w0 w1 w2 : World} {v : Value} {T : Ty} (h : TS (we E w0) v T) (hb : Below w0.heap.size w0 w1) (hS : w0.heap.size ≤ S.b) (hs : SR S w1 w2) : TS (we E w2) v T :=
  ((h.below (ex_step (x := S.b) hb hS)).below (by rw [we_size]; exact hs.we (E := ex _ S.b) (by simp [ex]))).sub (ex_less _ _ _)
theorem TB.of_new {E : Nat → Bool} {S : SD} {w0 w1 : World} {v : Value} {T : Ty} (h : TS (we E w0) v T) (hb : Below w0.heap.size w0 w1) (hS : w0.heap.size ≤ S.b) : TB S T v w1 :=
  (h.below (ex_step (x := S.b) hb hS)).sub (we_less _ fun k hk => by simp only [beq_iff_eq] at hk; simp [ex, hk])
theorem TOB.row {B0 B x : Nat} {w : World} {v : Value} {T : Ty} (h : TOB B0 B w v T) (hx : x < B0) (cs : Array Value) : TOB B0 B (w.setRow x cs) v T := by
  obtain ⟨p, c, xs, h1, h2, h3, h4⟩ := h
  exact ⟨p, c, xs, h1, ownsRow_at h2 fun g hg => setRow_other _ _ _ _ (by have := (h2.lt g hg).1; omega), h3, h4.mono fun x cs _ h => h.below (by rw [we_size]; exact we_row (aE_b hx) _)⟩
theorem TOB.low {B0 B0' B : Nat} {w : World} {v : Value} {T : Ty} (h : TOB B0 B w v T) (hB : B0' ≤ B0) : TOB B0' B w v T := by
  obtain ⟨p, c, xs, h1, h2, h3, h4⟩ := h
  refine ⟨p, c, xs, h1, own_low h2 hB, h3, h4.mono fun x cs _ h => h.sub (we_less _ fun k hk => ?_)⟩
  simp only [aE, Bool.or_eq_true, decide_eq_true_eq] at hk ⊢
  rcases hk with hk | hk
  · exact .inl (by omega)
  · exact .inr hk
theorem TOB.wide {B0 B B' : Nat} {w : World} {v : Value} {T : Ty} (h : TOB B0 B w v T) (hB : B ≤ B') : TOB B0 B' w v T := by
  obtain ⟨p, c, xs, h1, h2, h3, h4⟩ := h
  exact ⟨p, c, xs, h1, h2, fun g hg => Nat.lt_of_lt_of_le (h3 g hg) hB, h4⟩
theorem below_row {B b : Nat} {w w' : World} (h : Below B w w') (hb : B ≤ b) (cs : Array Value) : Below B w (w'.setRow b cs) :=
  ⟨h.os, h.tape, h.output, by rw [size_setRow]; exact h.size, fun i hi => by rw [setRow_other _ _ _ _ (by omega)]; exact h.block i hi⟩
theorem ts_row {E : Nat → Bool} {x : Nat} {w : World} {v : Value} {T : Ty} (h : TS (we E w) v T) (hx : E x = true) (cs : Array Value) : TS (we E (w.setRow x cs)) v T := h.below (by rw [we_size]; exact we_row hx cs)
theorem vs_row {E : Nat → Bool} {x d : Nat} {w : World} {V : VV} {l : List Value} (h : VS (we E w) d V l) (hx : E x = true) (cs : Array Value) : VS (we E (w.setRow x cs)) d V l := h.below (by rw [we_size]; exact we_row hx cs)
theorem src_new {b : Nat} {p : Option Addr} {c : Nat} {L : List Int} {w w1 : World} (h : IS w (.slice p L.length c) L) (hb : Below w.heap.size w w1) (hwb : w.heap.size ≤ b) (hc : w1.heap[b]? = some (.cells #[.slice p L.length c, .int .i64 0] 39)) (hl : L.length ≤ 1000) : SRC ⟨b, p, c, L⟩ w1 :=
  ⟨⟨0, by simp, hc⟩, h.below (hb.trans (wo_in hwb |>.mono (Nat.le_refl _))), hl⟩
def DRW (w : World) (e : Ending) (w' : World) : Prop := ∃ tv T v V n B, e = .returned (.tuple #[tv, v]) ∧ TS (we (lo w.heap.size) w') tv T ∧ TOB w.heap.size B w' tv T ∧ TD n T ∧ 1 ≤ n ∧ n ≤ 7 ∧ VW (we (lo B) w') v V ∧ V.valid = true ∧ V.nodes ≤ NN 4 ∧ w.heap.size ≤ B ∧ Below w.heap.size w w'
set_option maxHeartbeats 64000000 in
theorem drawn_any (p q : Option Addr) (c d : Nat) (L M : List Int) (w : World) (hL : IS w (.slice p L.length c) L) (hM : IS w (.slice q M.length d) M) (hl : L.length ≤ 1000) (hm : M.length ≤ 1000) : Calls Tryz.prog 11 #[.slice p L.length c, .slice q M.length d] w (DRW w) := by
  obtain ⟨w2, e9, hA, hC, hb⟩ := boxes2 w (.cells #[.slice none 0 0, .int .i64 0] 31) (.cells #[.int .i64 0, .int .i64 0, .string ⟨#[]⟩, .slice none 0 0, .slice none 0 0, .slice none 0 0, .slice none 0 0] 28)
  have hs2 : w2.heap.size = w.heap.size + 2 := by rw [← e9]; simp
  have HL := Lib.hid hL; have HM := Lib.hid hM; have HA := Lib.hid hA; have HC := Lib.hid hC; have Hb := Lib.hid hb; have Hs2 := Lib.hid hs2
  clear hL hM hA hC hb hs2
  have hB3 := heap_alloc_new w2 (.cells #[.slice p L.length c, .int .i64 0] 39)
  have hb3 : Below w2.heap.size w2 (w2.alloc (.cells #[.slice p L.length c, .int .i64 0] 39)) := (Below.refl _ _).alloc (Nat.le_refl _) _
  go_enter Tryz.func11, Tryz.ntmps11
  go_upto_region 1 with fail
  try rw [e9]
  clear e9
  go_upto_region 2 with fail
  generalize w2.alloc (.cells #[.slice p L.length c, .int .i64 0] 39) = w3 at *
  have HS3 := Lib.hid (SR.refl (src_new HL.out (Hb.out.trans (hb3.mono Hb.out.size)) Hb.out.size hB3 hl))
  have HA3 := Lib.hid ((hb3.block _ (heap_lt HA.out)).trans HA.out)
  have HC3 := Lib.hid ((hb3.block _ (heap_lt HC.out)).trans HC.out)
  have Hb3 := Lib.hid (Hb.out.trans (hb3.mono Hb.out.size))
  have hlt3 := heap_lt hB3
  clear hB3 hb3
  have hbs : w.heap.size + 2 ≤ w2.heap.size := Nat.le_of_eq Hs2.out.symm
  go_upto_region 3 with (first
    | (go_at_call 24; refine (next_any ⟨w2.heap.size, p, c, L⟩ 7 w3 HS3.out.src (by omega)).mono ?_; rintro e w4 ⟨x, rfl, hs, h0, h1, -⟩; have h1 := h1 (by decide); obtain ⟨n', hn'⟩ : ∃ n' : Nat, (1 : Int) + x = (n' : Int) := ⟨(1 + x).toNat, by omega⟩; have H4 := Lib.hid hs; have hn1 : 1 ≤ n' := (by omega); have hn7 : n' ≤ 7 := (by omega); clear hs h0 h1)
    | (go_at_call 23; refine (type_any ⟨w2.heap.size, p, c, L⟩ n' w4 H4.out.src hn1 (by omega)).mono ?_; rintro e w5 ⟨tv, T, rfl, ht, hd, hs, ho⟩; obtain ⟨pT, cT, xs, rfl, ho, hch⟩ := ho; have HT := Lib.hid ht; have HD := Lib.hid hd; have H5 := Lib.hid (H4.out.trans hs); have HO := Lib.hid (TO.tob (v := .agg #[.slice pT T.nodes.length cT, .int .i64 T.root]) ⟨pT, cT, xs, rfl, ho, hch⟩); have Hw4 := Lib.hid (show w3.heap.size ≤ w4.heap.size from H4.out.size); clear ht hd hs ho hch hn'))
  have hB6 := heap_alloc_new w5 (.cells #[.slice pT T.nodes.length cT, .int .i64 T.root] 31)
  have hb6 : Below w5.heap.size w5 (w5.alloc (.cells #[.slice pT T.nodes.length cT, .int .i64 T.root] 31)) := (Below.refl _ _).alloc (Nat.le_refl _) _
  generalize w5.alloc (.cells #[.slice pT T.nodes.length cT, .int .i64 T.root] 31) = w6 at *
  have HB6 := Lib.hid hB6; have Hb6 := Lib.hid hb6
  have hlt6 := heap_lt hB6
  have hsz5 : w3.heap.size ≤ w5.heap.size := H5.out.size
  have Hb5 := Lib.hid (show Below w.heap.size w w5 from Hb3.out.trans (H5.out.old (B := w.heap.size) (by show w.heap.size ≤ w2.heap.size; omega)))
  clear hB6 hb6
  go_upto_region 4 with fail
  have hB7 := heap_alloc_new w6 (.cells #[.slice q M.length d, .int .i64 0] 39)
  have hb7 : Below w6.heap.size w6 (w6.alloc (.cells #[.slice q M.length d, .int .i64 0] 39)) := (Below.refl _ _).alloc (Nat.le_refl _) _
  generalize w6.alloc (.cells #[.slice q M.length d, .int .i64 0] 39) = w7 at *
  have hsz6 : w5.heap.size ≤ w6.heap.size := Hb6.out.size
  have HS7 := Lib.hid (SR.refl (src_new HM.out (Hb5.out.trans ((Hb6.out.mono (by omega)).trans (hb7.mono (by omega)))) (by omega) hB7 hm))
  have H57 := Lib.hid (show Below w5.heap.size w5 w7 from Hb6.out.step hb7)
  have HB7 := Lib.hid ((hb7.block _ hlt6).trans HB6.out)
  have hlt7 := heap_lt hB7
  clear hB7 hb7
  obtain ⟨g0, g1⟩ := cells2 HB7.out
  have hDl := HD.out.len
  have HDl := Lib.hid hDl
  clear hDl
  generalize hbt : w5.heap.size = bt at *
  generalize hbr : w6.heap.size = br at *
  have Hbt := Lib.hid hbt; have Hbr := Lib.hid hbr
  clear hbt hbr
  go_upto_region 5 with (go_at_call 24; refine (next_any ⟨br, q, d, M⟩ (T.nodes.length : Int) w7 HS7.out.src (by have := HDl.out; omega)).mono ?_; rintro e w8 ⟨k, rfl, hs, -, -, -⟩; have H8 := Lib.hid hs; clear hs)
  have HB8 := Lib.hid ((H8.out.block (k := bt) (by omega) (by show bt ≠ br; omega)).trans HB7.out)
  clear g0 g1
  obtain ⟨g0, g1⟩ := cells2 HB8.out
  have Y7 := Lib.hid (show w8.drew.cell? ⟨bt, 0, none⟩ = _ from g0)
  have hlt8 := heap_lt HB8.out
  have hTB : TB ⟨br, q, d, M⟩ T (.agg #[.slice pT T.nodes.length cT, .int .i64 T.root]) w7 := TB.of_new (S := ⟨br, q, d, M⟩) HT.out (by rw [Hbt.out]; exact H57.out) (by rw [Hbt.out]; show bt ≤ br; omega)
  have HTB := Lib.hid (hTB.sr H8.out.drew)
  have HN := Lib.hid (Near_any T n' HD.out (by omega) (.agg #[.slice pT T.nodes.length cT, .int .i64 T.root]) ⟨br, q, d, M⟩ 4 4 (by decide) (by decide) k w8.drew H8.out.drew.src HTB.out)
  have hsz8 : w7.heap.size ≤ w8.heap.size := H8.out.size
  clear hTB
  go_wp2_with (first
    | ((with_reducible refine Lex.at_finK ?_); refine LexK.finE_on (by kernel_rfl) (by repeat first | exact LexK.finL_nil | refine LexK.finL_none rfl ?_ | refine LexK.finL_skip (by decide +kernel) ?_ | refine LexK.finL_take rfl (Eq.refl _) Y7.out ?_) ?_)
    | ((with_reducible refine Lex.at_region ?_); refine LexK.wp_region_lexE (fun x => x = bt) (by kernel_rfl) (by decide +kernel) ?_)
    | ((with_reducible refine Lex.at_wpX ?_); with_reducible refine LexK.wpX_plain (by decide +kernel) ?_)
    | ((with_reducible refine Lex.at_wpX ?_); with_reducible refine LexK.wpX_call ?_)
    | ((with_reducible refine Lex.at_wpX ?_); with_reducible refine LexK.wpX_nil ?_)
    | ((with_reducible refine Lex.at_ext ?_); first | (refine LexK.ext_on hex9.out ?_) | (refine LexK.ext_on (LexK.Ext.alloc _ _) ?_) | (refine LexK.ext_on (LexK.Ext.refl _) ?_))
    | (go_at_call 25; refine HN.out.mono ?_; rintro e w9 ⟨v9, X, rfl, hx, hq, hs⟩; obtain ⟨dv, cs, rfl, hx⟩ := hx; obtain ⟨x1, x2, x3, x4, x5, x6, x7, x8, rfl⟩ := hx.seven; have HX := Lib.hid hx; have Hq := Lib.hid hq; have hex9 := Lib.hid (ext_one hs (show bt ≠ br by omega) hlt8); have H9 := Lib.hid (H8.out.drew.trans hs); have HC9 := Lib.hid ((H9.out.block (k := w.heap.size + 1) (by omega) (by show w.heap.size + 1 ≠ br; omega)).trans ((H57.out.block _ (by omega)).trans ((H5.out.block (k := w.heap.size + 1) (by omega) (by show w.heap.size + 1 ≠ w2.heap.size; omega)).trans HC3.out))); have HA9 := Lib.hid ((H9.out.block (k := w.heap.size) (by omega) (by show w.heap.size ≠ br; omega)).trans ((H57.out.block _ (by omega)).trans ((H5.out.block (k := w.heap.size) (by omega) (by show w.heap.size ≠ w2.heap.size; omega)).trans HA3.out))); clear hx hq hs)
    | (with_reducible refine wpList_store_row rfl 31 (.tmp 4) (.tmp 26) rfl _ _ rfl rfl _ _ HA9.out (by kernel_rfl) (by kernel_rfl) (by kernel_rfl) ?_)
    | (with_reducible refine wpList_store_row rfl 28 (.tmp 5) (.tmp 30) rfl _ _ rfl rfl _ _ ((setRow_other _ _ _ _ (by omega)).trans HC9.out) (by kernel_rfl) (by kernel_rfl) (by kernel_rfl) ?_))
  refine bodyPost_ret (results_cell_cell rfl _ _ w.heap.size 31 _ (0, 0) _ rfl ((setRow_other _ _ _ _ (by omega)).trans (setRow_heap _ _ _ _ _ _ HA9.out)) rfl rfl (by kernel_rfl) (w.heap.size + 1) 28 _ (0, 0) _ rfl (setRow_heap _ _ _ _ _ _ ((setRow_other _ _ _ _ (by omega)).trans HC9.out)) rfl rfl (by kernel_rfl)) rfl ?_
  have hB0 : w.heap.size + 2 ≤ w4.heap.size := by have := Hw4.out; omega
  have hT9 : TS (we (lo (w.heap.size + 2)) w9) (.agg #[.slice pT T.nodes.length cT, .int .i64 T.root]) T := (HT.out.sub (lo_less w5 hB0)).turn (S := ⟨br, q, d, M⟩) (by rw [Hbt.out]; exact H57.out) (by rw [Hbt.out]; show bt ≤ br; omega) H9.out
  have hO9 := (HO.out.low (B0' := w.heap.size + 2) hB0).turn (S := ⟨br, q, d, M⟩) (by rw [Hbt.out]; exact H57.out) (by rw [Hbt.out]; show bt ≤ br; omega) (Nat.le_of_eq Hbt.out.symm) H9.out
  have hE1 : lo (w.heap.size + 2) w.heap.size = true := by simp [lo]
  have hE2 : lo (w.heap.size + 2) (w.heap.size + 1) = true := by simp [lo]
  have hE3 : lo w8.drew.heap.size w.heap.size = true := by simp only [lo, decide_eq_true_eq]; show w.heap.size < w8.heap.size; omega
  have hE4 : lo w8.drew.heap.size (w.heap.size + 1) = true := by simp only [lo, decide_eq_true_eq]; show w.heap.size + 1 < w8.heap.size; omega
  refine ⟨_, T, _, X, n', w8.heap.size, rfl, ?_, ((hO9.row (by omega) _).row (by omega) _).low (by omega) |>.wide (by first | omega | (rw [Hbt.out]; omega)), HD.out, hn1, hn7, ⟨dv, _, rfl, ?_⟩, Hq.out.1, Hq.out.2, by omega, ?_⟩
  · exact TS.sub (lo_less _ (show w.heap.size ≤ w.heap.size + 2 by omega)) (ts_row (ts_row hT9 hE1 _) hE2 _)
  · exact vs_row (vs_row HX.out hE3 _) hE4 _
  · have hb9 := Hb5.out.trans ((H57.out.mono (by omega)).trans (H9.out.old (B := w.heap.size) (by show w.heap.size ≤ br; omega)))
    exact (below_row hb9 (by omega) _ |> fun h => below_row h (by omega) _)
end Go.Proofs.YtjgldaaofdpcgaaGreat
namespace Go.Proofs.YtjgldaaofdpcgaaGreat
open Go.RowKit Go.Ident
theorem wf_mk {T : Ty} (hr : T.has T.root = true) (hn : ∀ (j : Nat) (h : j < T.nodes.length), plainN T.nodes[j] = true ∧ kindN T.nodes[j] = true ∧ ∀ k ∈ edgesN T.nodes[j], 0 ≤ k ∧ k < (T.nodes.length : Int)) {rk : Nat → Nat} (hrk : RkT T rk) : WfT T := by
  refine ⟨hr, fun x hx => ?_, rk, hrk⟩
  obtain ⟨j, hj, rfl⟩ := List.mem_iff_getElem.1 hx
  obtain ⟨h1, h2, h3⟩ := hn j hj
  unfold nodeT
  rw [h1, h2, Bool.true_and, Bool.true_and, List.all_eq_true]
  exact fun k hk => has_iff.2 (h3 k hk)
theorem TD.rk {n : Nat} {T : Ty} (h : TD n T) : RkT T fun i => n - i := by
  intro i hi hb k hk
  have hl := h.len
  rw [T.node_at hi] at hb hk
  have hd := h.at' i hi
  have h1 := hd.later hb k hk
  have h2 := hd.edges k (by unfold edgesN; simp [hk])
  show n - k.toNat < n - i
  omega
theorem TD.wf {n : Nat} {T : Ty} (h : TD n T) (h1 : 1 ≤ n) : WfT T := by
  have hl := h.len
  exact wf_mk (by rw [h.root]; exact has_iff.2 ⟨by omega, by unfold Ty.len; omega⟩) (fun j hj => ⟨(h.at' j hj).plain, (h.at' j hj).kind, fun k hk => by have := (h.at' j hj).edges k hk; omega⟩) h.rk
theorem memNode {T : Ty} (hw : WfT T) (V : VV) {i : Nat} (hi : i < T.nodes.length) : mem T V (i : Int) = memS (mem T) V (mem T V) T.nodes[i] := by rw [mem_eq hw.m, T.node_at hi]
def newN (k : Int) (ks : List Int) : TN := ⟨k, 0, 0, noText, ks, [], 0, 0⟩
def cmpT (T : Ty) : Ty := ⟨T.nodes ++ [newN 18 [T.root], newN 16 [T.root, (T.nodes.length : Int) - 1], newN 17 [T.root, (T.nodes.length : Int) - 1]], T.root⟩
theorem cmpT_len (T : Ty) : (cmpT T).nodes.length = T.nodes.length + 3 := by simp [cmpT]
theorem cmpT_old (T : Ty) {j : Nat} (h : j < T.nodes.length) : (cmpT T).nodes[j]'(by rw [cmpT_len]; omega) = T.nodes[j] := by simp [cmpT, List.getElem_append_left h]
theorem cmpT_n0 (T : Ty) : (cmpT T).nodes[T.nodes.length]'(by rw [cmpT_len]; omega) = newN 18 [T.root] := by simp [cmpT]
theorem cmpT_n1 (T : Ty) : (cmpT T).nodes[T.nodes.length + 1]'(by rw [cmpT_len]; omega) = newN 16 [T.root, (T.nodes.length : Int) - 1] := by
  have : (cmpT T).nodes[T.nodes.length + 1]? = some (newN 16 [T.root, (T.nodes.length : Int) - 1]) := by simp [cmpT, List.getElem?_append]
  simpa using List.getElem?_eq_some_iff.1 this |>.2
theorem cmpT_n2 (T : Ty) : (cmpT T).nodes[T.nodes.length + 2]'(by rw [cmpT_len]; omega) = newN 17 [T.root, (T.nodes.length : Int) - 1] := by
  have : (cmpT T).nodes[T.nodes.length + 2]? = some (newN 17 [T.root, (T.nodes.length : Int) - 1]) := by simp [cmpT, List.getElem?_append]
  simpa using List.getElem?_eq_some_iff.1 this |>.2
theorem new_cases {T : Ty} {j : Nat} (h : j < (cmpT T).nodes.length) : (∃ h2 : j < T.nodes.length, (cmpT T).nodes[j] = T.nodes[j]) ∨ (T.nodes.length ≤ j ∧ ((cmpT T).nodes[j] = newN 18 [T.root] ∨ (cmpT T).nodes[j] = newN 16 [T.root, (T.nodes.length : Int) - 1] ∨ (cmpT T).nodes[j] = newN 17 [T.root, (T.nodes.length : Int) - 1])) := by
  have hl := cmpT_len T
  by_cases h2 : j < T.nodes.length
  · exact .inl ⟨h2, cmpT_old T h2⟩
  · refine .inr ⟨by omega, ?_⟩
    rcases (show j = T.nodes.length ∨ j = T.nodes.length + 1 ∨ j = T.nodes.length + 2 by omega) with rfl | rfl | rfl
    · exact .inl (cmpT_n0 T)
    · exact .inr (.inl (cmpT_n1 T))
    · exact .inr (.inr (cmpT_n2 T))
theorem cmpT_wf {n : Nat} {T : Ty} (h : TD n T) (h1 : 1 ≤ n) : WfT (cmpT T) := by
  have hl := h.len
  have hl2 := cmpT_len T
  have hr := h.root
  have hkids : ∀ k, k = T.root ∨ k = (T.nodes.length : Int) - 1 → 0 ≤ k ∧ k < (n : Int) := fun k hk => by rcases hk with rfl | rfl <;> omega
  refine wf_mk (rk := fun i => if i < n then n - i else n + 1) (by show (cmpT T).has T.root = true; rw [hr]; exact has_iff.2 ⟨by omega, by unfold Ty.len; omega⟩) (fun j hj => ?_) ?_
  · rcases new_cases hj with ⟨h2, e⟩ | ⟨-, e | e | e⟩
    · rw [e]; exact ⟨(h.at' j h2).plain, (h.at' j h2).kind, fun k hk => by have := (h.at' j h2).edges k hk; omega⟩
    · rw [e]; exact ⟨by simp [plainN, newN, kidsK, noText, ByteArray.size], by simp [kindN, newN], fun k hk => by simp [edgesN, newN] at hk; have := hkids k (by simp [hk]); omega⟩
    · rw [e]; exact ⟨by simp [plainN, newN, kidsK, noText, ByteArray.size], by simp [kindN, newN], fun k hk => by simp [edgesN, newN] at hk; have := hkids k hk; omega⟩
    · rw [e]; exact ⟨by simp [plainN, newN, kidsK, noText, ByteArray.size], by simp [kindN, newN], fun k hk => by simp [edgesN, newN] at hk; have := hkids k hk; omega⟩
  · intro i hi hb k hk
    rw [(cmpT T).node_at hi] at hb hk
    have hnew : (k = T.root ∨ k = (T.nodes.length : Int) - 1) → T.nodes.length ≤ i → (if k.toNat < n then n - k.toNat else n + 1) < (if i < n then n - i else n + 1) := fun hk hi => by
      have := hkids k hk
      rw [if_pos (by omega), if_neg (by omega)]; omega
    rcases new_cases hi with ⟨h2, e⟩ | ⟨h2, e | e | e⟩
    · rw [e] at hb hk
      have h3 := (h.at' i h2).later hb k hk
      have h4 := (h.at' i h2).edges k (by unfold edgesN; simp [hk])
      show (if k.toNat < n then n - k.toNat else n + 1) < (if i < n then n - i else n + 1)
      rw [if_pos (by omega), if_pos (by omega)]; omega
    · rw [e] at hk; exact hnew (by simp [newN] at hk; exact .inl hk) h2
    · rw [e] at hk; exact hnew (by simpa [newN] using hk) h2
    · rw [e] at hk; exact hnew (by simpa [newN] using hk) h2
theorem mof_at {T : Ty} {V : VV} (hv : V.valid = true) (h : WfT T) {k : Int} (hk : T.has k = true) : mof T V k = mem T V k := by rw [mof_wf hv h, hk, Bool.true_and]
theorem cmp_law {n : Nat} {T : Ty} (h : TD n T) (h1 : 1 ≤ n) {V : VV} (hv : V.valid = true) :
    mof (cmpT T) V (n : Int) = !mof (cmpT T) V T.root ∧ mof (cmpT T) V ((n : Int) + 1) = (mof (cmpT T) V T.root || mof (cmpT T) V ((n : Int) - 1)) ∧ mof (cmpT T) V ((n : Int) + 2) = (mof (cmpT T) V T.root && mof (cmpT T) V ((n : Int) - 1)) := by
  have hw := cmpT_wf h h1
  have hl := h.len
  have hl2 := cmpT_len T
  have hr := h.root
  have hh : ∀ k : Int, 0 ≤ k → k < (n : Int) + 3 → (cmpT T).has k = true := fun k h1 h2 => has_iff.2 ⟨h1, by unfold Ty.len; omega⟩
  rw [mof_at hv hw (hh _ (by omega) (by omega)), mof_at hv hw (hh T.root (by omega) (by omega)), mof_at hv hw (hh ((n : Int) + 1) (by omega) (by omega)), mof_at hv hw (hh ((n : Int) + 2) (by omega) (by omega)), mof_at hv hw (hh ((n : Int) - 1) (by omega) (by omega))]
  refine ⟨?_, ?_, ?_⟩
  · rw [memNode hw V (i := n) (by omega)]
    have e := cmpT_n0 T
    simp only [hl] at e
    rw [e]; simp [memS, newN]
  · rw [show (n : Int) + 1 = ((n + 1 : Nat) : Int) by omega, memNode hw V (i := n + 1) (by omega)]
    have e := cmpT_n1 T
    simp only [hl] at e
    rw [e]; simp [memS, newN]
  · rw [show (n : Int) + 2 = ((n + 2 : Nat) : Int) by omega, memNode hw V (i := n + 2) (by omega)]
    have e := cmpT_n2 T
    simp only [hl] at e
    rw [e]; simp [memS, newN]
def oneE (num : Int) (e : EE) : VV := .mk 9 num noText [] [] [e] []
theorem oneE_valid {V : VV} (hv : V.valid = true) (hk : V.kind = 9) {e : EE} (he : e ∈ V.ents) : (oneE V.num e).valid = true := by
  rw [valid_eq, Bool.and_eq_true, Bool.and_eq_true, List.all_eq_true, List.all_eq_true] at hv ⊢
  obtain ⟨h1, -, h3⟩ := hv
  refine ⟨?_, by simp [oneE, VV.kids], fun x hx => ?_⟩
  · unfold nodeV at h1
    simp [hk] at h1
    obtain ⟨-, ⟨h0, h4⟩, -, h5⟩ := h1
    have h6 := h5 e he
    generalize V.num = q at *
    unfold nodeV oneE
    simp only [VV.kind, VV.num, VV.text, VV.kids, VV.keys, VV.ents, VV.labels]
    simp [usesNum, usesText, noText, ByteArray.size, ascL, h0, h4, h6]
  · have : x = e := by simpa [oneE, VV.ents] using hx
    subst this; exact h3 x he
theorem one_law {T : Ty} (hw : WfT T) {V : VV} (hv : V.valid = true) (hk : V.kind = 9) {k : Nat} (hkn : k < T.nodes.length) (h14 : T.nodes[k].kind = 14) :
    mof T V (k : Int) = (decide (V.num = (T.nodes[k].kids.length : Int) - 1) && V.ents.all fun e => mof T (oneE V.num e) (k : Int)) := by
  have hh : T.has (k : Int) = true := has_iff.2 ⟨by omega, by unfold Ty.len; omega⟩
  rw [mof_at hv hw hh, memNode hw V hkn]
  have hm : ∀ v : VV, v.kind = 9 → memS (mem T) v (mem T v) T.nodes[k] = funA (mem T) v T.nodes[k] := fun v hv => by simp [memS, h14, hv]
  rw [hm V hk]
  cases hd : decide (V.num = (T.nodes[k].kids.length : Int) - 1) with
  | false => unfold funA; rw [hd]; rfl
  | true =>
    unfold funA
    rw [hd, Bool.true_and, Bool.true_and, Bool.eq_iff_iff, List.all_eq_true, List.all_eq_true]
    have key : ∀ e ∈ V.ents, mof T (oneE V.num e) (k : Int) = entA (mem T) T.nodes[k].kids e := fun e he => by
      rw [mof_at (oneE_valid hv hk he) hw hh, memNode hw _ hkn, hm _ rfl]
      unfold funA
      show (decide (V.num = (T.nodes[k].kids.length : Int) - 1) && ([e] : List EE).all (entA (mem T) T.nodes[k].kids)) = _
      rw [hd]; simp
    exact ⟨fun h e he => by rw [key e he]; exact h e he, fun h e he => by rw [← key e he]; exact h e he⟩
end Go.Proofs.YtjgldaaofdpcgaaGreat
