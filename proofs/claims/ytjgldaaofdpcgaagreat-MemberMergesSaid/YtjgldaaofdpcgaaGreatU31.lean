/- Walks and plain facts for the laws of membership, for all values and types that the heap holds (texts A4). -/
import Derived.Test.YtjgldaaofdpcgaaGreatU30
set_option linter.unusedVariables false
set_option linter.unusedSimpArgs false
namespace Go.Proofs.YtjgldaaofdpcgaaGreat
open Go.RowKit Go.Ident
set_option maxRecDepth 100000
theorem node_info : (Tryz.prog.info? 48).map (fun i => (i.zero, i.size, i.bytes)) = some (some (.agg #[.int .i64 0, .int .i64 0, .int .i64 0, .string ⟨#[]⟩, .slice none 0 0, .slice none 0 0, .int .i64 0, .int .i64 0]), 8, 104) := by kernel_rfl
theorem NC.seven {w : World} {X : TN} {cs : List Value} (h : NC w X cs) : ∃ x1 x2 x3 x4, cs = [.int .i64 X.kind, .int .i64 X.lo, .int .i64 X.hi, .string X.text, .slice x1 X.kids.length x2, .slice x3 X.fields.length x4, .int .i64 X.rest0, .int .i64 X.rest1] := by
  obtain ⟨p1, c1, p2, c2, rfl, -, -⟩ := h; exact ⟨p1, c1, p2, c2, rfl⟩
theorem chn_app {S : SD} {wq w5 w7 : World} {B : Nat} {o : Obj} {av v7 u : Value} {A : List TN} {xs cs : List Value} {X : TN} (hc : Ch 8 (NC (we (aE B av u) wq)) A xs) (hs : SR S wq w5) (hSb : S.b < B) (hx : NC (we (lo wq.heap.size) w5) X cs)
    (hold : Old (aE B av u) wq.heap.size) (hf : Fr [] av v7 (w5.alloc o) w7) (hl : cs.length = 8) : Ch 8 (NC (we (aE B v7 u) w7)) (A ++ [X]) (xs ++ cs) := by
  have hal : Below (we (aE B av u) w5).heap.size (we (aE B av u) w5) (we (aE B av u) (w5.alloc o)) := by rw [we_size]; exact we_below ((Below.refl _ _).alloc (Nat.le_refl _) _)
  have h1 : Ch 8 (NC (we (aE B v7 u) w7)) A xs := hc.mono fun x cs _ h => ((h.below (by rw [we_size]; exact hs.we (aE_b hSb))).below hal).sub (frsub1 hf)
  have h2 : NC (we (aE B v7 u) w7) X cs := ((hx.sub (lo_sub w5 hold)).below hal).sub (frsub1 hf)
  exact h1.append (Ch.single hl h2)
theorem ts_fin {E : Nat → Bool} {n bx : Nat} {w : World} {v : Value} {T : Ty} (h : TS (we E w) v T) (hx : E bx = true) (hl : ∀ k, k < n → E k = true) (cs : Array Value) : TS (we (lo n) (w.setRow bx cs)) v T :=
  (h.below (by rw [we_size]; exact we_row hx cs)).sub (we_less _ fun k hk => hl k (by simpa [lo] using hk))
structure TD (n : Nat) (T : Ty) : Prop where
  root : T.root = 0
  len : T.nodes.length = n
  at' : ∀ (j : Nat) (h : j < T.nodes.length), DN (j : Int) (n : Int) T.nodes[j]
def TO (B : Nat) (w' : World) (v : Value) (T : Ty) : Prop := ∃ p c xs, v = .agg #[.slice p T.nodes.length c, .int .i64 T.root] ∧ w'.ownsRow B 48 8 (.slice p T.nodes.length c) T.nodes.length xs ∧ Ch 8 (NC (we (aE B (.slice p T.nodes.length c) (.slice none 0 0)) w')) T.nodes xs
theorem own_low {w : World} {B B' n size : Nat} {e : TypeId} {v : Value} {xs : List Value} (h : w.ownsRow B e size v n xs) (hB : B' ≤ B) : w.ownsRow B' e size v n xs :=
  ⟨h.1, h.2.imp id fun ⟨g, cap, cur, e1, hb, rest⟩ => ⟨g, cap, cur, e1, Nat.le_trans hB hb, rest⟩⟩
def TR (n : Nat) (S : SD) (w : World) (e : Ending) (w' : World) : Prop := ∃ v T, e = .returned v ∧ TS (we (lo w.heap.size) w') v T ∧ TD n T ∧ SR S w w' ∧ TO w.heap.size w' v T
set_option maxHeartbeats 64000000 in
theorem type_any (S : SD) (n : Nat) (w : World) (hS : SRC S w) (h1n : 1 ≤ n) (hn : n ≤ 1000) : Calls Tryz.prog 23 #[.pointer (some ⟨S.b, 0, none⟩), .int .i64 (n : Int)] w (TR n S w) := by
  have hltS := hS.lt
  have Hb := Lib.hid (show w.heap.size ≠ S.b by omega)
  have Ha := Lib.hid (SR.alloc hS (.cells #[.slice none 0 0, .int .i64 0] 31))
  have Hn := Lib.hid (heap_alloc_new w (.cells #[.slice none 0 0, .int .i64 0] 31))
  clear hS
  go_enter Tryz.func23, Tryz.ntmps23
  go_upto_region 1 with fail
  generalize w.alloc (.cells #[.slice none 0 0, .int .i64 0] 31) = w1 at *
  go_upto_region 3 with fail
  rw [show max (n : Int) 1 = (n : Int) by omega]
  have hB4 := heap_alloc_new w1 (.cells #[.slice none 0 0, .int .i64 0] 31)
  have hb4 : Below w1.heap.size w1 (w1.alloc (.cells #[.slice none 0 0, .int .i64 0] 31)) := (Below.refl _ _).alloc (Nat.le_refl _) _
  generalize w1.alloc (.cells #[.slice none 0 0, .int .i64 0] 31) = w4 at *
  have HB4 := Lib.hid hB4; have H4 := Lib.hid (Ha.out.step hb4); have Z4 := Lib.hid ((hb4.block _ (heap_lt Hn.out)).trans Hn.out)
  have hbw := (show w.heap.size < w1.heap.size from heap_lt Hn.out)
  clear hB4 hb4
  generalize w1.heap.size = bx at *
  go_wp2
  go_loopw [6] (fun iv wr => ∃ (i : Nat) (L : List TN) (xs : List Value) (tv : Value), iv = .int .i64 (i : Int) ∧ i ≤ n ∧ L.length = i ∧ wr.heap[bx]? = some (.cells #[tv, .int .i64 0] 31) ∧ wr.ownsRow (bx + 1) 48 8 tv L.length xs ∧ Ch 8 (NC (we (aE (bx + 1) tv (.slice none 0 0)) wr)) L xs ∧ (∀ (j : Nat) (h : j < L.length), DN (j : Int) (n : Int) L[j]) ∧ wr.heap[w.heap.size]? = some (.cells #[.slice none 0 0, .int .i64 0] 31) ∧ SR S w wr) (fun iv _ => ((n : Int) - intOf iv).toNat)
  case atStart => exact ⟨0, [], [], .slice none 0 0, rfl, by omega, rfl, HB4.out, World.ownsRow_nil _ _ _ _, Ch.nil, fun j h => by simp at h, Z4.out, H4.out⟩
  case round =>
    obtain ⟨i, L, xs, tv, rfl, hi, hL, hBr, ho, hc, hN, hZr, hsr⟩ := hrel
    obtain ⟨pa, ca, rfl⟩ := own_slice ho
    have HBr := Lib.hid hBr; have Ho := Lib.hid ho; have Hc := Lib.hid hc; have HN := Lib.hid hN; have HZr := Lib.hid hZr; have Hsr := Lib.hid hsr; have HL := Lib.hid hL
    have hsz2 : bx + 1 ≤ wr.heap.size := heap_lt hBr
    have Hxb := Lib.hid (show bx ≠ S.b by omega)
    obtain ⟨g0, g1⟩ := cells2 hBr
    clear hBr ho hc hN hZr hsr hL
    by_cases hin : i < n
    · have d9 : decide (i < n) = true := by simp [hin]
      have YB := Lib.hid (show wr.drew.cell? ⟨bx, 0, none⟩ = _ from g0)
      have Hsd := Lib.hid Hsr.out.src.drew
      have hlBr := heap_lt HBr.out
      obtain ⟨wq, hwq⟩ : ∃ wq : World, wq = wr := ⟨_, rfl⟩
      subst hwq
      go_wp2_with (first
        | ((with_reducible refine Lex.at_finK ?_); refine LexK.finE_on (by kernel_rfl) (by repeat first | exact LexK.finL_nil | refine LexK.finL_none rfl ?_ | refine LexK.finL_skip (by decide +kernel) ?_ | refine LexK.finL_take rfl (Eq.refl _) YB.out ?_) ?_)
        | ((with_reducible refine Lex.at_region ?_); refine LexK.wp_region_lexE (fun x => x = bx) (by kernel_rfl) (by decide +kernel) ?_)
        | ((with_reducible refine Lex.at_wpX ?_); with_reducible refine LexK.wpX_plain (by decide +kernel) ?_)
        | ((with_reducible refine Lex.at_wpX ?_); with_reducible refine LexK.wpX_call ?_)
        | ((with_reducible refine Lex.at_wpX ?_); with_reducible refine LexK.wpX_nil ?_)
        | ((with_reducible refine Lex.at_ext ?_); first | (refine LexK.ext_on hex5.out ?_) | (refine LexK.ext_on hex7.out ?_) | (refine LexK.ext_on (LexK.Ext.alloc _ _) ?_) | (refine LexK.ext_on (LexK.Ext.refl _) ?_))
        | (go_at_call 39; refine (node_any S (i : Int) (n : Int) wq.drew Hsd.out (by omega) (by omega) (by omega)).mono ?_; rintro e w5 ⟨cs, X, rfl, hx, hq, hs⟩; obtain ⟨x1, x2, x3, x4, rfl⟩ := hx.seven; have HX := Lib.hid hx; have Hq := Lib.hid hq; have Hs5 := Lib.hid hs; have hex5 := Lib.hid (ext_one hs Hxb.out hlBr); have Ho5 := Lib.hid (hs.owns (own_drew Ho.out) (by omega)); have H5 := Lib.hid (Hsr.out.drew.trans hs); have hw5 : bx + 1 ≤ w5.heap.size := (Nat.le_trans hsz2 hs.size); clear hx hq hs)
        | (at_builtin; go_loud (refine wpList_append_fr rfl (.tmp 16) (.tmp 21) 29 rfl 48 (by kernel_rfl) node_info rfl (by decide) (by decide) (bx + 1) _ w5.heap.size [.int .i64 X.kind, .int .i64 X.lo, .int .i64 X.hi, .string X.text, .slice x1 X.kids.length x2, .slice x3 X.fields.length x4, .int .i64 X.rest0, .int .i64 X.rest1] (heap_alloc_new w5 _) (Nat.le_trans hw5 (by simp)) rfl (by intro u hu; simp at hu; rcases hu with rfl | rfl | rfl | rfl | rfl | rfl | rfl | rfl <;> rfl) (.slice pa L.length ca) L.length xs rfl (ownsRow_below Ho5.out ((Below.refl _ _).alloc (Nat.le_refl _) _) (Nat.le_refl _)) (by have := HL.out; omega) rfl ?_); intro v7 w7 ho7 hf7; have hb7 := (hf7.below (Nat.le_trans hw5 (by simp)) (by simp) fun g hg => (Ho5.out.lt g hg).1); have hex7 := Lib.hid (show LexK.Ext (fun x => x = bx) (w5.alloc (.cells #[.int .i64 X.kind, .int .i64 X.lo, .int .i64 X.hi, .string X.text, .slice x1 X.kids.length x2, .slice x3 X.fields.length x4, .int .i64 X.rest0, .int .i64 X.rest1] 48)) w7 from ext_bel hb7 (by omega)); have Hb7 := Lib.hid (((Below.refl w5.heap.size w5).alloc (Nat.le_refl _) (.cells #[.int .i64 X.kind, .int .i64 X.lo, .int .i64 X.hi, .string X.text, .slice x1 X.kids.length x2, .slice x3 X.fields.length x4, .int .i64 X.rest0, .int .i64 X.rest1] 48)).mono hw5 |>.trans hb7); obtain ⟨p7, c7, rfl⟩ := own_slice ho7; have Ho7 := Lib.hid ho7; have hB7 := (Hb7.out.block bx (by omega)).trans ((Hs5.out.block hlBr Hxb.out).trans HBr.out); have HB7 := Lib.hid hB7; have HU := Lib.hid (Upd.set (i := 0) (v := .slice p7 (L.length + 1) c7) (Upd.refl hB7)); have hz0 : w7.cell? ⟨bx, 0, none⟩ = some (.slice pa L.length ca) := (by simp [World.cell?, hB7]); have hz1 : w7.frozen? ⟨bx, 0, none⟩ = false := (by simp [World.frozen?, hB7]); have Hf7 := Lib.hid hf7; clear ho7 hf7 hb7 hB7))
      have hB8 := HU.out.blk
      have hcA := chn_app Hc.out ((SR.refl Hsr.out.src).drew.trans Hs5.out) (by omega) HX.out (aE_old Ho.out (World.ownsRow_nil wq 0 0 0) hsz2) Hf7.out rfl
      refine ⟨⟨i + 1, L ++ [X], xs ++ [.int .i64 X.kind, .int .i64 X.lo, .int .i64 X.hi, .string X.text, .slice x1 X.kids.length x2, .slice x3 X.fields.length x4, .int .i64 X.rest0, .int .i64 X.rest1], .slice p7 (L.length + 1) c7, by first | rfl | (congr 1), by omega, by rw [List.length_append, HL.out]; rfl, by simpa using hB8, by rw [List.length_append]; exact own_upd Ho7.out HU.out (by omega), ?_, fun j hj => ?_, ?_, (H5.out.app (Hb7.out.mono (by omega))).app (HU.out.below (by omega))⟩, by simp [intOf]; omega⟩
      · exact hcA.mono fun x cs _ h => h.below (by rw [we_size]; exact we_upd HU.out (aE_b (by omega)))
      · by_cases e : j < L.length
        · rw [List.getElem_append_left e]; exact HN.out j e
        · have : j = L.length := by rw [List.length_append] at hj; have : [X].length = 1 := rfl; omega
          subst this
          rw [List.getElem_append_right (Nat.le_refl _)]
          simp only [Nat.sub_self, List.getElem_cons_zero]
          have := HL.out
          rw [show L.length = i from this]
          exact Hq.out
      · exact (HU.out.other w.heap.size (by omega)).trans ((Hb7.out.block _ (by omega)).trans ((Hs5.out.block (by show w.heap.size < wq.heap.size; omega) Hb.out).trans HZr.out))
    · have d9 : decide (i < n) = false := by simp; omega
      obtain rfl : i = n := by omega
      go_wp2_with (with_reducible refine wpList_store_row rfl 31 (.tmp 4) (.tmp 24) rfl _ _ rfl rfl _ _ HZr.out (by kernel_rfl) (by kernel_rfl) (by kernel_rfl) ?_)
      refine bodyPost_ret (results_cell_row rfl _ _ w.heap.size 31 _ (0, 0) _ rfl (setRow_heap _ _ _ _ _ _ HZr.out) rfl rfl (by kernel_rfl)) rfl ?_
      have HcE := Hc.out.mono fun x cs _ h => h.sub (aE_lo _ _ _ _)
      obtain ⟨pz, cz, ez, hrw⟩ := own_rw (we_own Ho.out (lo_old _)) HcE (by have := HL.out; omega)
      injection ez with ez1 _ ez3
      subst ez1 ez3
      refine ⟨_, ⟨L, 0⟩, rfl, ts_fin (T := ⟨L, 0⟩) ⟨_, _, rfl, hrw, fun x hx => by obtain ⟨j, hj, rfl⟩ := List.mem_iff_getElem.1 hx; exact Nat.le_trans (HN.out j hj).kids (by decide)⟩ (show lo (bx + 1) w.heap.size = true by simp [lo]; omega) (fun k hk => by simp [lo]; omega) _, ⟨rfl, HL.out, HN.out⟩, Hsr.out.row (Nat.le_refl _) Hb.out _, ⟨_, _, xs, rfl, own_low (ownsRow_at Ho.out fun g hg => setRow_other _ _ _ _ (by have := (Ho.out.lt g hg).1; omega)) (by omega), Hc.out.mono fun x cs _ h => (h.below (by rw [we_size]; exact we_row (aE_b (by omega)) _)).sub (we_less _ fun k hk => ?_)⟩⟩
      simp only [aE, Bool.or_eq_true, decide_eq_true_eq] at hk ⊢
      rcases hk with hk | hk
      · exact .inl (by omega)
      · exact .inr hk
end Go.Proofs.YtjgldaaofdpcgaaGreat
