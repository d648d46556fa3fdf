/- Walks and plain facts for the laws of membership, for all values and types that the heap holds (texts Z3). -/
import Derived.Test.YtjgldaaofdpcgaaGreatU19
import Derived.Test.YtjgldaaofdpcgaaGreatU21
set_option linter.unusedVariables false
set_option linter.unusedSimpArgs false
namespace Go.Proofs.YtjgldaaofdpcgaaGreat
open Go.RowKit Go.Ident
set_option maxRecDepth 100000
theorem vw0 (w : World) (k n : Int) (s : ByteArray) : VW w (.agg #[.int .i64 k, .int .i64 n, .string s, .slice none 0 0, .slice none 0 0, .slice none 0 0, .slice none 0 0]) (.mk k n s [] [] [] []) :=
  ⟨1, _, rfl, none, 0, none, 0, none, 0, none, 0, rfl, Rw.nil _ _ _ _ _, Rw.nil _ _ _ _ _, Rw.nil _ _ _ _ _, Rw.nil _ _ _ _ _⟩
set_option maxHeartbeats 16000000 in
theorem mkInt_any (n : Int) (w : World) : Calls Tryz.prog 21 #[.int .i64 n] w fun e w' => e = .returned (.agg #[.int .i64 1, .int .i64 n, .string ⟨#[]⟩, .slice none 0 0, .slice none 0 0, .slice none 0 0, .slice none 0 0]) ∧ Below w.heap.size w w' := by
  go_enter Tryz.func21, Tryz.ntmps21
  go_upto_region 1 with fail
  have hn := heap_alloc_new w (.cells #[.int .i64 0, .int .i64 0, .string ⟨#[]⟩, .slice none 0 0, .slice none 0 0, .slice none 0 0, .slice none 0 0] 28)
  have hb : Below w.heap.size w (w.alloc (.cells #[.int .i64 0, .int .i64 0, .string ⟨#[]⟩, .slice none 0 0, .slice none 0 0, .slice none 0 0, .slice none 0 0] 28)) := (Below.refl _ _).alloc (Nat.le_refl _) _
  generalize w.alloc (.cells #[.int .i64 0, .int .i64 0, .string ⟨#[]⟩, .slice none 0 0, .slice none 0 0, .slice none 0 0, .slice none 0 0] 28) = w1 at *
  go_wp2_with (with_reducible refine wpList_store_row rfl 28 (.tmp 2) (.tmp 4) rfl _ _ rfl rfl _ _ hn (by kernel_rfl) (by kernel_rfl) (by kernel_rfl) ?_)
  refine bodyPost_ret (results_cell_row rfl _ _ w.heap.size 28 _ (0, 0) _ rfl (setRow_heap _ _ _ _ _ _ hn) rfl rfl (by kernel_rfl)) rfl ?_
  exact ⟨rfl, below_setRow hb (Nat.le_refl _)⟩
set_option maxHeartbeats 16000000 in
theorem mkAtom_any (s : ByteArray) (w : World) : Calls Tryz.prog 22 #[.string s] w fun e w' => e = .returned (.agg #[.int .i64 3, .int .i64 0, .string s, .slice none 0 0, .slice none 0 0, .slice none 0 0, .slice none 0 0]) ∧ Below w.heap.size w w' := by
  go_enter Tryz.func22, Tryz.ntmps22
  go_upto_region 1 with fail
  have hn := heap_alloc_new w (.cells #[.int .i64 0, .int .i64 0, .string ⟨#[]⟩, .slice none 0 0, .slice none 0 0, .slice none 0 0, .slice none 0 0] 28)
  have hb : Below w.heap.size w (w.alloc (.cells #[.int .i64 0, .int .i64 0, .string ⟨#[]⟩, .slice none 0 0, .slice none 0 0, .slice none 0 0, .slice none 0 0] 28)) := (Below.refl _ _).alloc (Nat.le_refl _) _
  generalize w.alloc (.cells #[.int .i64 0, .int .i64 0, .string ⟨#[]⟩, .slice none 0 0, .slice none 0 0, .slice none 0 0, .slice none 0 0] 28) = w1 at *
  go_wp2_with (with_reducible refine wpList_store_row rfl 28 (.tmp 2) (.tmp 4) rfl _ _ rfl rfl _ _ hn (by kernel_rfl) (by kernel_rfl) (by kernel_rfl) ?_)
  refine bodyPost_ret (results_cell_row rfl _ _ w.heap.size 28 _ (0, 0) _ rfl (setRow_heap _ _ _ _ _ _ hn) rfl rfl (by kernel_rfl)) rfl ?_
  exact ⟨rfl, below_setRow hb (Nat.le_refl _)⟩
set_option maxHeartbeats 16000000 in
theorem mkString_any (s : ByteArray) (w : World) : Calls Tryz.prog 75 #[.string s] w fun e w' => e = .returned (.agg #[.int .i64 2, .int .i64 0, .string s, .slice none 0 0, .slice none 0 0, .slice none 0 0, .slice none 0 0]) ∧ Below w.heap.size w w' := by
  go_enter Tryz.func75, Tryz.ntmps75
  go_upto_region 1 with fail
  have hn := heap_alloc_new w (.cells #[.int .i64 0, .int .i64 0, .string ⟨#[]⟩, .slice none 0 0, .slice none 0 0, .slice none 0 0, .slice none 0 0] 28)
  have hb : Below w.heap.size w (w.alloc (.cells #[.int .i64 0, .int .i64 0, .string ⟨#[]⟩, .slice none 0 0, .slice none 0 0, .slice none 0 0, .slice none 0 0] 28)) := (Below.refl _ _).alloc (Nat.le_refl _) _
  generalize w.alloc (.cells #[.int .i64 0, .int .i64 0, .string ⟨#[]⟩, .slice none 0 0, .slice none 0 0, .slice none 0 0, .slice none 0 0] 28) = w1 at *
  go_wp2_with (with_reducible refine wpList_store_row rfl 28 (.tmp 2) (.tmp 4) rfl _ _ rfl rfl _ _ hn (by kernel_rfl) (by kernel_rfl) (by kernel_rfl) ?_)
  refine bodyPost_ret (results_cell_row rfl _ _ w.heap.size 28 _ (0, 0) _ rfl (setRow_heap _ _ _ _ _ _ hn) rfl rfl (by kernel_rfl)) rfl ?_
  exact ⟨rfl, below_setRow hb (Nat.le_refl _)⟩
set_option maxHeartbeats 16000000 in
theorem mkPid_any (n : Int) (w : World) : Calls Tryz.prog 76 #[.int .i64 n] w fun e w' => e = .returned (.agg #[.int .i64 4, .int .i64 n, .string ⟨#[]⟩, .slice none 0 0, .slice none 0 0, .slice none 0 0, .slice none 0 0]) ∧ Below w.heap.size w w' := by
  go_enter Tryz.func76, Tryz.ntmps76
  go_upto_region 1 with fail
  have hn := heap_alloc_new w (.cells #[.int .i64 0, .int .i64 0, .string ⟨#[]⟩, .slice none 0 0, .slice none 0 0, .slice none 0 0, .slice none 0 0] 28)
  have hb : Below w.heap.size w (w.alloc (.cells #[.int .i64 0, .int .i64 0, .string ⟨#[]⟩, .slice none 0 0, .slice none 0 0, .slice none 0 0, .slice none 0 0] 28)) := (Below.refl _ _).alloc (Nat.le_refl _) _
  generalize w.alloc (.cells #[.int .i64 0, .int .i64 0, .string ⟨#[]⟩, .slice none 0 0, .slice none 0 0, .slice none 0 0, .slice none 0 0] 28) = w1 at *
  go_wp2_with (with_reducible refine wpList_store_row rfl 28 (.tmp 2) (.tmp 4) rfl _ _ rfl rfl _ _ hn (by kernel_rfl) (by kernel_rfl) (by kernel_rfl) ?_)
  refine bodyPost_ret (results_cell_row rfl _ _ w.heap.size 28 _ (0, 0) _ rfl (setRow_heap _ _ _ _ _ _ hn) rfl rfl (by kernel_rfl)) rfl ?_
  exact ⟨rfl, below_setRow hb (Nat.le_refl _)⟩
set_option maxHeartbeats 16000000 in
theorem mkNil_any (w : World) : Calls Tryz.prog 43 #[] w fun e w' => e = .returned (.agg #[.int .i64 5, .int .i64 0, .string ⟨#[]⟩, .slice none 0 0, .slice none 0 0, .slice none 0 0, .slice none 0 0]) ∧ Below w.heap.size w w' := by
  go_enter Tryz.func43, Tryz.ntmps43
  go_upto_region 1 with fail
  have hn := heap_alloc_new w (.cells #[.int .i64 0, .int .i64 0, .string ⟨#[]⟩, .slice none 0 0, .slice none 0 0, .slice none 0 0, .slice none 0 0] 28)
  have hb : Below w.heap.size w (w.alloc (.cells #[.int .i64 0, .int .i64 0, .string ⟨#[]⟩, .slice none 0 0, .slice none 0 0, .slice none 0 0, .slice none 0 0] 28)) := (Below.refl _ _).alloc (Nat.le_refl _) _
  generalize w.alloc (.cells #[.int .i64 0, .int .i64 0, .string ⟨#[]⟩, .slice none 0 0, .slice none 0 0, .slice none 0 0, .slice none 0 0] 28) = w1 at *
  go_wp2_with (with_reducible refine wpList_store_row rfl 28 (.tmp 0) (.tmp 1) rfl _ _ rfl rfl _ _ hn (by kernel_rfl) (by kernel_rfl) (by kernel_rfl) ?_)
  refine bodyPost_ret (results_cell_row rfl _ _ w.heap.size 28 _ (0, 0) _ rfl (setRow_heap _ _ _ _ _ _ hn) rfl rfl (by kernel_rfl)) rfl ?_
  exact ⟨rfl, below_setRow hb (Nat.le_refl _)⟩
theorem vw_fin {E : Nat → Bool} {x : Nat} {w : World} {v : Value} {V : VV} (h : VW (we (ex E x) w) v V) (cs : Array Value) : VW (we E (w.setRow x cs)) v V :=
  (h.below (by rw [we_size]; exact we_row (by simp [ex]) cs)).sub (ex_less _ _ _)
theorem ex_step {E : Nat → Bool} {x : Nat} {w w1 : World} (hb : Below w.heap.size w w1) (hx : w.heap.size ≤ x) : Below (we E w).heap.size (we E w) (we (ex E x) w1) := by
  rw [we_size]; exact (we_below hb).trans (ex_in hx)
set_option maxHeartbeats 16000000 in
theorem copies_any (E : Nat → Bool) (l : List VV) (w : World) (v : Value) (hE : Old E w.heap.size) (h : KS (we E w) v l) (hl : l.length ≤ 1000000) : Calls Tryz.prog 81 #[v] w fun e w' => ∃ v', e = .returned v' ∧ KS (we E w') v' l ∧ Below w.heap.size w w' := by
  obtain ⟨d, p, c, rfl, hr⟩ := h
  obtain ⟨cs, h1, h2⟩ := hr.ch
  have H1 := Lib.hid (h1.sub (we_sub E w)); have H2 := Lib.hid h2; have Hone := Lib.hid (h2.cells fun _ _ h => h.one)
  have Hbw := Lib.hid hE
  clear hr h1 h2 hE
  go_enter Tryz.func81, Tryz.ntmps81
  go_wp2_with (at_builtin; go_loud (refine wpList_append_ownrc rfl (.const (.slice none 0 0)) (.tmp 3) 23 rfl 28 (by kernel_rfl) val_info rfl (by decide) (by decide) w.heap.size w p 0 l.length c [] cs (Nat.le_refl _) (.slice none 0 0) rfl rfl (World.ownsRow_nil _ _ _ _) H1.out Hone.out (by omega) ?_); intro v3 w3 ho3 hf3; have Hb3 := Lib.hid (hf3.below (Nat.le_refl _) (by simp) (fun g hg => by simp [Value.ownBlock] at hg)); rw [Nat.zero_add, List.nil_append] at ho3; have Ho3 := Lib.hid ho3; clear ho3 hf3)
  go_ret
  obtain ⟨pz, cz, e7, hrw⟩ := own_rw (we_own Ho3.out Hbw.out) H2.out (by omega)
  exact ⟨_, rfl, ⟨d, pz, cz, e7, hrw.mono fun x cs _ h => h.below (by rw [we_size]; exact we_below Hb3.out)⟩, Hb3.out⟩
theorem vw_kids {w : World} {p : Option Addr} {c d : Nat} {l : List VV} (h : Rw w p c 7 l (VS w d)) (k n : Int) (s : ByteArray) : VW w (.agg #[.int .i64 k, .int .i64 n, .string s, .slice p l.length c, .slice none 0 0, .slice none 0 0, .slice none 0 0]) (.mk k n s l [] [] []) :=
  ⟨d + 1, _, rfl, p, c, none, 0, none, 0, none, 0, rfl, h, Rw.nil _ _ _ _ _, Rw.nil _ _ _ _ _, Rw.nil _ _ _ _ _⟩
set_option maxHeartbeats 16000000 in
theorem mkTuple_any (E : Nat → Bool) (l : List VV) (w : World) (v : Value) (hE : Old E w.heap.size) (h : KS (we E w) v l) (hl : l.length ≤ 1000000) : Calls Tryz.prog 42 #[v] w fun e w' => ∃ v', e = .returned v' ∧ VW (we E w') v' (.mk 6 0 noText l [] [] []) ∧ Below w.heap.size w w' := by
  have H := Lib.hid h
  obtain ⟨_, p, c, rfl, -⟩ := h
  go_enter Tryz.func42, Tryz.ntmps42
  go_upto_region 1 with fail
  have hn := heap_alloc_new w (.cells #[.int .i64 0, .int .i64 0, .string ⟨#[]⟩, .slice none 0 0, .slice none 0 0, .slice none 0 0, .slice none 0 0] 28)
  have hb : Below w.heap.size w (w.alloc (.cells #[.int .i64 0, .int .i64 0, .string ⟨#[]⟩, .slice none 0 0, .slice none 0 0, .slice none 0 0, .slice none 0 0] 28)) := (Below.refl _ _).alloc (Nat.le_refl _) _
  generalize w.alloc (.cells #[.int .i64 0, .int .i64 0, .string ⟨#[]⟩, .slice none 0 0, .slice none 0 0, .slice none 0 0, .slice none 0 0] 28) = w1 at *
  have Hn := Lib.hid hn; have Hb := Lib.hid hb
  have Hc := Lib.hid (copies_any (ex E w.heap.size) l w1 _ (ex_old (hE.mono hb.size) (heap_lt hn)) (H.out.below (ex_step hb (Nat.le_refl _))) hl)
  clear hn hb hE
  go_wp2_with (first
    | (go_at_call 81; refine Hc.out.mono ?_; rintro e w2 ⟨v2, rfl, hk, hb2⟩; obtain ⟨d2, p2, c2, rfl, hr2⟩ := hk; have Hr2 := Lib.hid hr2; have Hb2 := Lib.hid hb2; have Hn2 := Lib.hid ((hb2.block _ (heap_lt Hn.out)).trans Hn.out); clear hr2 hb2)
    | (with_reducible refine wpList_store_row rfl 28 (.tmp 2) (.tmp 5) rfl _ _ rfl rfl _ _ Hn2.out (by kernel_rfl) (by kernel_rfl) (by kernel_rfl) ?_))
  refine bodyPost_ret (results_cell_row rfl _ _ w.heap.size 28 _ (0, 0) _ rfl (setRow_heap _ _ _ _ _ _ Hn2.out) rfl rfl (by kernel_rfl)) rfl ?_
  exact ⟨_, rfl, vw_fin (vw_kids Hr2.out _ _ _) _, below_setRow (Hb.out.step Hb2.out) (Nat.le_refl _)⟩
theorem boxes3' (w : World) (A B C : Obj) : ∃ w3, ((w.alloc A).alloc B).alloc C = w3 ∧ w3.heap[w.heap.size]? = some A ∧ w3.heap[w.heap.size + 1]? = some B ∧ w3.heap[w.heap.size + 1 + 1]? = some C ∧ Below w.heap.size w w3 ∧ w3.heap.size = w.heap.size + 1 + 1 + 1 := by
  obtain ⟨w3, e, h1, h2, h3, h4⟩ := boxes3 w A B C
  refine ⟨w3, e, h1, h2, h3, h4, ?_⟩
  rw [← e]; simp
set_option maxHeartbeats 16000000 in
theorem mkCons_any (E : Nat → Bool) (H T : VV) (w : World) (u v : Value) (hE : Old E w.heap.size) (hu : VW (we E w) u H) (hv : VW (we E w) v T) : Calls Tryz.prog 44 #[u, v] w fun e w' => ∃ v', e = .returned v' ∧ VW (we E w') v' (.mk 7 0 noText [H, T] [] [] []) ∧ Below w.heap.size w w' := by
  obtain ⟨d1, cs1, rfl, hH⟩ := hu
  obtain ⟨d2, cs2, rfl, hT⟩ := hv
  have HH := Lib.hid hH; have HT := Lib.hid hT; have HE := Lib.hid hE
  obtain ⟨q1, q2, q3, q4, q5, q6, q7, q8, rfl⟩ := hH.seven
  obtain ⟨r1, r2, r3, r4, r5, r6, r7, r8, rfl⟩ := hT.seven
  clear hH hT hE
  go_enter Tryz.func44, Tryz.ntmps44
  go_upto_region 1 with fail
  obtain ⟨w3, e9, hA, hB, hC, hb, hs⟩ := boxes3' w (.cells #[.int .i64 H.kind, .int .i64 H.num, .string H.text, .slice q1 H.kids.length q2, .slice q3 H.keys.length q4, .slice q5 H.ents.length q6, .slice q7 H.labels.length q8] 28) (.cells #[.int .i64 T.kind, .int .i64 T.num, .string T.text, .slice r1 T.kids.length r2, .slice r3 T.keys.length r4, .slice r5 T.ents.length r6, .slice r7 T.labels.length r8] 28) (.cells #[.int .i64 0, .int .i64 0, .string ⟨#[]⟩, .slice none 0 0, .slice none 0 0, .slice none 0 0, .slice none 0 0] 28)
  rw [e9]
  obtain ⟨⟨f0, f1, f2, f3⟩, f4, f5, f6⟩ := cells7 hA
  obtain ⟨⟨g0, g1, g2, g3⟩, g4, g5, g6⟩ := cells7 hB
  have Hb := Lib.hid hb; have HC := Lib.hid hC; have Hs := Lib.hid hs
  clear e9 hA hB hC hb hs
  have Hn := Lib.hid (heap_alloc_new w3 (.cells #[.int .i64 H.kind, .int .i64 H.num, .string H.text, .slice q1 H.kids.length q2, .slice q3 H.keys.length q4, .slice q5 H.ents.length q6, .slice q7 H.labels.length q8, .int .i64 T.kind, .int .i64 T.num, .string T.text, .slice r1 T.kids.length r2, .slice r3 T.keys.length r4, .slice r5 T.ents.length r6, .slice r7 T.labels.length r8] 28))
  have Hb4 := Lib.hid ((Below.refl w3.heap.size w3).alloc (Nat.le_refl _) (.cells #[.int .i64 H.kind, .int .i64 H.num, .string H.text, .slice q1 H.kids.length q2, .slice q3 H.keys.length q4, .slice q5 H.ents.length q6, .slice q7 H.labels.length q8, .int .i64 T.kind, .int .i64 T.num, .string T.text, .slice r1 T.kids.length r2, .slice r3 T.keys.length r4, .slice r5 T.ents.length r6, .slice r7 T.labels.length r8] 28))
  have hC4 := (Hb4.out.block _ (heap_lt HC.out)).trans HC.out
  go_wp2_with (with_reducible refine wpList_store_row rfl 28 (.tmp 4) (.tmp 8) rfl _ _ rfl rfl _ _ hC4 (by kernel_rfl) (by kernel_rfl) (by kernel_rfl) ?_)
  refine bodyPost_ret (results_cell_row rfl _ _ (w.heap.size + 1 + 1) 28 _ (0, 0) _ rfl (setRow_heap _ _ _ _ _ _ hC4) rfl rfl (by kernel_rfl)) rfl ?_
  generalize w3.alloc (.cells #[.int .i64 H.kind, .int .i64 H.num, .string H.text, .slice q1 H.kids.length q2, .slice q3 H.keys.length q4, .slice q5 H.ents.length q6, .slice q7 H.labels.length q8, .int .i64 T.kind, .int .i64 T.num, .string T.text, .slice r1 T.kids.length r2, .slice r3 T.keys.length r4, .slice r5 T.ents.length r6, .slice r7 T.labels.length r8] 28) = w4 at *
  refine ⟨_, rfl, vw_fin (x := w.heap.size + 1 + 1) (vw_kids (p := some ⟨w3.heap.size, 0, none⟩) (c := 2) (d := max d1 d2) (l := [H, T]) ?_ 7 0 ⟨#[]⟩) _, below_setRow (Hb.out.step Hb4.out) (by omega)⟩
  have hst := ex_step (E := E) (x := w.heap.size + 1 + 1) (Hb.out.step Hb4.out) (by omega)
  have e0 : ex E (w.heap.size + 1 + 1) w3.heap.size = false := by have := Hs.out; simp only [ex, Bool.or_eq_false_iff]; exact ⟨HE.out _ (by omega), by simp; omega⟩
  refine Rw.of_ch (cs := [.int .i64 H.kind, .int .i64 H.num, .string H.text, .slice q1 H.kids.length q2, .slice q3 H.keys.length q4, .slice q5 H.ents.length q6, .slice q7 H.labels.length q8, .int .i64 T.kind, .int .i64 T.num, .string T.text, .slice r1 T.kids.length r2, .slice r3 T.keys.length r4, .slice r5 T.ents.length r6, .slice r7 T.labels.length r8]) (RC.row (e := 28) rfl ((we_at e0).trans Hn.out) (fun j u hu => by simpa using hu)) ?_ (by simp) (by simp)
  exact (Ch.single (cs := [.int .i64 H.kind, .int .i64 H.num, .string H.text, .slice q1 H.kids.length q2, .slice q3 H.keys.length q4, .slice q5 H.ents.length q6, .slice q7 H.labels.length q8]) rfl ((HH.out.below hst).up (Nat.le_max_left _ _))).append (Ch.single (cs := [.int .i64 T.kind, .int .i64 T.num, .string T.text, .slice r1 T.kids.length r2, .slice r3 T.keys.length r4, .slice r5 T.ents.length r6, .slice r7 T.labels.length r8]) rfl ((HT.out.below hst).up (Nat.le_max_right _ _)))
def VV.lab (V : VV) (l : List ByteArray) : VV := .mk V.kind V.num V.text V.kids V.keys V.ents l
theorem vw_lab {w : World} {d : Nat} {V : VV} {l : List ByteArray} {q1 q3 q5 q7 : Option Addr} {q2 q4 q6 q8 : Nat} {u : Value} (h : VS w d V [.int .i64 V.kind, .int .i64 V.num, .string V.text, .slice q1 V.kids.length q2, .slice q3 V.keys.length q4, .slice q5 V.ents.length q6, .slice q7 V.labels.length q8]) (hl : SS w u l) : VW w (.agg #[.int .i64 V.kind, .int .i64 V.num, .string V.text, .slice q1 V.kids.length q2, .slice q3 V.keys.length q4, .slice q5 V.ents.length q6, u]) (V.lab l) := by
  cases d with
  | zero => exact h.elim
  | succ d =>
    obtain ⟨p1, c1, p2, c2, p3, c3, p4, c4, e, h1, h2, h3, h4⟩ := h
    obtain ⟨p5, c5, rfl, h5⟩ := hl
    simp at e
    obtain ⟨⟨rfl, rfl⟩, ⟨rfl, rfl⟩, ⟨rfl, rfl⟩, rfl, rfl⟩ := e
    exact ⟨d + 1, _, rfl, _, _, _, _, _, _, p5, c5, rfl, h1, h2, h3, h5⟩
set_option maxHeartbeats 16000000 in
theorem withLabels_any (E : Nat → Bool) (V : VV) (l : List ByteArray) (w : World) (v u : Value) (hE : Old E w.heap.size) (hv : VW (we E w) v V) (hu : SS (we E w) u l) (hl : l.length ≤ 100000) : Calls Tryz.prog 79 #[v, u] w fun e w' => ∃ v' l', e = .returned v' ∧ VW (we E w') v' (V.lab l') ∧ l'.length ≤ l.length ∧ Below w.heap.size w w' := by
  obtain ⟨d1, cs1, rfl, hH⟩ := hv
  have HH := Lib.hid hH; have HE := Lib.hid hE; have HU := Lib.hid hu
  obtain ⟨q1, q2, q3, q4, q5, q6, q7, q8, rfl⟩ := hH.seven
  clear hH hE hu
  go_enter Tryz.func79, Tryz.ntmps79
  go_upto_region 1 with fail
  obtain ⟨w2, e9, hA, hC, hb⟩ := boxes2 w (.cells #[.int .i64 V.kind, .int .i64 V.num, .string V.text, .slice q1 V.kids.length q2, .slice q3 V.keys.length q4, .slice q5 V.ents.length q6, .slice q7 V.labels.length q8] 28) (.cells #[.int .i64 0, .int .i64 0, .string ⟨#[]⟩, .slice none 0 0, .slice none 0 0, .slice none 0 0, .slice none 0 0] 28)
  rw [e9]
  obtain ⟨⟨f0, f1, f2, f3⟩, f4, f5, f6⟩ := cells7 hA
  have Hb := Lib.hid hb; have HA := Lib.hid hA; have HC := Lib.hid hC
  have hlA := heap_lt hA; have hlC := heap_lt hC
  have Hst := Lib.hid (show Below (we E w).heap.size (we E w) (we (ex (ex E w.heap.size) (w.heap.size + 1)) w2) from by rw [we_size]; exact (we_below hb).trans ((ex_in (Nat.le_refl _)).trans (ex_in (by omega))))
  have Hs := Lib.hid (sorted_any (ex (ex E w.heap.size) (w.heap.size + 1)) l w2 u (ex_old (ex_old (HE.out.mono hb.size) hlA) hlC) (HU.out.below Hst.out) hl)
  clear e9 hA hC hb f0 f1 f2 f3 f4 f5 f6
  go_upto_region 2 with (go_at_call 49; refine Hs.out.mono ?_; rintro e w3 ⟨v3, l3, rfl, hs3, hl3, hb3⟩; have Hl3 := Lib.hid hl3; clear hl3; obtain ⟨p9, c9, e9, -⟩ := (id hs3); subst e9; have Hs3 := Lib.hid hs3; have Hb3 := Lib.hid hb3; have hA3 := (hb3.block _ hlA).trans HA.out; have hU3 := Lib.hid (Upd.set (i := 6) (v := .slice p9 l3.length c9) (Upd.refl hA3)); have hz6 : w3.cell? ⟨w.heap.size, 6, none⟩ = some (.slice q7 V.labels.length q8) := (by simp [World.cell?, hA3]); have hz7 : w3.frozen? ⟨w.heap.size, 6, none⟩ = false := (by simp [World.frozen?, hA3]))
  have hA4 := hU3.out.blk
  have hC4 := (hU3.out.other (w.heap.size + 1) (by omega)).trans ((Hb3.out.block _ hlC).trans HC.out)
  have Hb4 := Lib.hid (hU3.out.below (Nat.le_refl w.heap.size))
  have Hw4 := Lib.hid (fun B => we_upd (B := B) (E := ex (ex E w.heap.size) (w.heap.size + 1)) hU3.out (by simp [ex]))
  clear hA3 hz6 hz7
  generalize w3.setCell ⟨w.heap.size, 6, none⟩ (.slice p9 l3.length c9) = w4 at *
  simp at hA4
  obtain ⟨⟨f0, f1, f2, f3⟩, f4, f5, f6⟩ := cells7 hA4
  go_wp2_with (with_reducible refine wpList_store_row rfl 28 (.tmp 4) (.tmp 8) rfl _ _ rfl rfl _ _ hC4 (by kernel_rfl) (by kernel_rfl) (by kernel_rfl) ?_)
  refine bodyPost_ret (results_cell_row rfl _ _ (w.heap.size + 1) 28 _ (0, 0) _ rfl (setRow_heap _ _ _ _ _ _ hC4) rfl rfl (by kernel_rfl)) rfl ?_
  have e4 := (Hst.out.step (by rw [we_size]; exact we_below Hb3.out)).step (Hw4.out _)
  exact ⟨_, l3, rfl, (vw_fin (vw_lab (HH.out.below e4) (Hs3.out.below (Hw4.out _))) _).sub (ex_less _ _ _), Hl3.out, below_setRow ((Hb.out.step Hb3.out).trans Hb4.out) (by omega)⟩
end Go.Proofs.YtjgldaaofdpcgaaGreat
