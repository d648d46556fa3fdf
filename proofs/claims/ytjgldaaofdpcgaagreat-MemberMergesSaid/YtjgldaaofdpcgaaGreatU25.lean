/- Walks and plain facts for the laws of membership, for all values and types that the heap holds (texts Z7). -/
import Derived.Test.YtjgldaaofdpcgaaGreatU24
set_option linter.unusedVariables false
set_option linter.unusedSimpArgs false
namespace Go.Proofs.YtjgldaaofdpcgaaGreat
open Go.RowKit Go.Ident
set_option maxRecDepth 100000
theorem gv_fin {E : Nat → Bool} {n bx : Nat} {w : World} {v : Value} {V : VV} (h : VW (we E w) v V) (hx : E bx = true) (hl : ∀ k, k < n → E k = true) (cs : Array Value) : VW (we (lo n) (w.setRow bx cs)) v V :=
  (h.below (by rw [we_size]; exact we_row hx cs)).sub (we_less _ fun k hk => hl k (by simpa [lo] using hk))
theorem lab_nodes (V : VV) (l : List ByteArray) : (V.lab l).nodes = V.nodes := by cases V; rfl
theorem sum_bound : ∀ {l : List VV} {N : Nat}, (∀ x ∈ l, x.nodes ≤ N) → (l.map VV.nodes).sum ≤ l.length * N
  | [], N, _ => by simp
  | x :: r, N, h => by
    have h1 := h x (by simp)
    have h2 := sum_bound (l := r) (N := N) fun y hy => h y (by simp [hy])
    simp only [List.map_cons, List.sum_cons, List.length_cons, Nat.add_mul, Nat.one_mul]
    omega
def GB (N : Nat) (F : Nat) (S : SD) (h : Int) : Prop := ∀ w, SRC S w → Calls Tryz.prog F #[.pointer (some ⟨S.b, 0, none⟩), .int .i64 h] w (GV (fun V => V.nodes ≤ N) S w)
set_option maxHeartbeats 16000000 in
theorem value_step2 (S : SD) (h : Int) (N : Nat) (hv : GB N 26 S h) (w : World) (hS : SRC S w) : Calls Tryz.prog 12 #[.pointer (some ⟨S.b, 0, none⟩), .int .i64 h] w (GV (fun V => V.nodes ≤ N ∧ V.labels.length ≤ 1000) S w) := by
  have HV := Lib.hid hv
  have Hb := Lib.hid (show w.heap.size ≠ S.b by have := hS.lt; omega)
  have hltS := hS.lt
  have Ha := Lib.hid (SR.alloc hS (.cells #[.int .i64 0, .int .i64 0, .string ⟨#[]⟩, .slice none 0 0, .slice none 0 0, .slice none 0 0, .slice none 0 0] 28))
  have Hn := Lib.hid (heap_alloc_new w (.cells #[.int .i64 0, .int .i64 0, .string ⟨#[]⟩, .slice none 0 0, .slice none 0 0, .slice none 0 0, .slice none 0 0] 28))
  have Hs := Lib.hid (show (w.alloc (.cells #[.int .i64 0, .int .i64 0, .string ⟨#[]⟩, .slice none 0 0, .slice none 0 0, .slice none 0 0, .slice none 0 0] 28)).heap.size = w.heap.size + 1 by simp)
  clear hS hv
  go_enter Tryz.func12, Tryz.ntmps12
  go_upto_region 1 with fail
  generalize w.alloc (.cells #[.int .i64 0, .int .i64 0, .string ⟨#[]⟩, .slice none 0 0, .slice none 0 0, .slice none 0 0, .slice none 0 0] 28) = w1 at *
  go_upto_region 2 with (go_at_call 26; refine (HV.out w1 Ha.out.src).mono ?_; rintro e w2 ⟨v2, X, rfl, hx, hq, hs⟩; obtain ⟨d, cs, rfl, hx⟩ := hx; obtain ⟨x1, x2, x3, x4, x5, x6, x7, x8, rfl⟩ := hx.seven; have HX := Lib.hid hx; have Hq := Lib.hid hq; have Hs2 := Lib.hid hs; have H2 := Lib.hid (Ha.out.trans hs); have Z2 := Lib.hid ((hs.block (heap_lt Hn.out) Hb.out).trans Hn.out); clear hx hq hs)
  have hZ3 := heap_alloc_new w2 (.cells #[.int .i64 X.kind, .int .i64 X.num, .string X.text, .slice x1 X.kids.length x2, .slice x3 X.keys.length x4, .slice x5 X.ents.length x6, .slice x7 X.labels.length x8] 28)
  have hb3 : Below w2.heap.size w2 (w2.alloc (.cells #[.int .i64 X.kind, .int .i64 X.num, .string X.text, .slice x1 X.kids.length x2, .slice x3 X.keys.length x4, .slice x5 X.ents.length x6, .slice x7 X.labels.length x8] 28)) := (Below.refl _ _).alloc (Nat.le_refl _) _
  generalize w2.alloc (.cells #[.int .i64 X.kind, .int .i64 X.num, .string X.text, .slice x1 X.kids.length x2, .slice x3 X.keys.length x4, .slice x5 X.ents.length x6, .slice x7 X.labels.length x8] 28) = w3 at *
  have H3 := Lib.hid (H2.out.step hb3); have Hb3 := Lib.hid hb3; have HZ3 := Lib.hid hZ3
  clear hb3 hZ3
  have Hsz := Lib.hid (show w.heap.size + 1 ≤ w2.heap.size from by have := Hs2.out.size; have := Hs.out; omega)
  go_upto_region 3 with (go_at_call 27; refine (labels_any S w3 H3.out.src).mono ?_; rintro e w4 ⟨v4, l4, rfl, hl4, hn4, hs⟩; have Hn4 := Lib.hid hn4; clear hn4; obtain ⟨p4, c4, e4, -⟩ := (id hl4); subst e4; have HL4 := Lib.hid hl4; have Hs4 := Lib.hid hs; have hA4 := (hs.block (heap_lt HZ3.out) (by have := Hsz.out; omega)).trans HZ3.out; have HA4 := Lib.hid hA4; have hz6 : w4.cell? ⟨w2.heap.size, 6, none⟩ = some (.slice x7 X.labels.length x8) := (by simp [World.cell?, hA4]); have hz7 : w4.frozen? ⟨w2.heap.size, 6, none⟩ = false := (by simp [World.frozen?, hA4]); clear hl4 hs hA4)
  have HU := Lib.hid (Upd.set (i := 6) (v := .slice p4 l4.length c4) (Upd.refl HA4.out))
  have hA5 := HU.out.blk
  have hlt3 : w2.heap.size < w3.heap.size := heap_lt HZ3.out
  have hw12 : w1.heap.size ≤ w2.heap.size := Hs2.out.size
  have hE : ex (lo w1.heap.size) w2.heap.size S.b = true := by simp [ex, lo_b (Ha.out.src) (Nat.le_refl _)]
  have hE2 : ex (lo w1.heap.size) w2.heap.size w2.heap.size = true := by simp [ex]
  have hE3 : ex (lo w1.heap.size) w2.heap.size w.heap.size = true := by have := heap_lt Hn.out; simp [ex, lo, this]
  have hold : Old (ex (lo w1.heap.size) w2.heap.size) w3.heap.size := ex_old ((lo_old _).mono (by omega)) hlt3
  have hx5 := ((HX.out.below (ex_step Hb3.out (Nat.le_refl _))).below (by rw [we_size]; exact Hs4.out.we hE)).below (by rw [we_size]; exact we_upd HU.out hE2)
  have hl5 := (HL4.out.sub (lo_sub w4 hold)).below (by rw [we_size]; exact we_upd HU.out hE2)
  have Hfin := Lib.hid (vw_lab hx5 hl5)
  have H5 := Lib.hid ((H3.out.trans Hs4.out).app (HU.out.below (B := w.heap.size) (by have := heap_lt Hn.out; omega)))
  have Hlow := Lib.hid (show ∀ k, k < w.heap.size → ex (lo w1.heap.size) w2.heap.size k = true from fun k hk => by have := heap_lt Hn.out; simp [ex, lo]; omega)
  have HE3 := Lib.hid hE3
  have hC5 := (HU.out.other w.heap.size (by have := heap_lt Hn.out; omega)).trans ((Hs4.out.block (by have := heap_lt Hn.out; omega) Hb.out).trans ((Hb3.out.block _ (by have := heap_lt Hn.out; omega)).trans Z2.out))
  clear hx5 hl5 hE hE2 hE3 hold hz6 hz7
  generalize w4.setCell ⟨w2.heap.size, 6, none⟩ (.slice p4 l4.length c4) = w5 at *
  simp at hA5
  obtain ⟨⟨f0, f1, f2, f3⟩, f4, f5, f6⟩ := cells7 hA5
  go_wp2_with (with_reducible refine wpList_store_row rfl 28 (.tmp 4) (.tmp 12) rfl _ _ rfl rfl _ _ hC5 (by kernel_rfl) (by kernel_rfl) (by kernel_rfl) ?_)
  refine bodyPost_ret (results_cell_row rfl _ _ w.heap.size 28 _ (0, 0) _ rfl (setRow_heap _ _ _ _ _ _ hC5) rfl rfl (by kernel_rfl)) rfl ?_
  exact ⟨_, _, rfl, gv_fin Hfin.out HE3.out Hlow.out _, ⟨by show (X.lab l4).nodes ≤ N; rw [lab_nodes]; exact Hq.out, by cases X; exact Hn4.out⟩, H5.out.row (Nat.le_refl _) Hb.out _⟩
theorem value_step (S : SD) (h : Int) (N : Nat) (hv : GB N 26 S h) : GB N 12 S h := fun w hS => (value_step2 S h N hv w hS).mono fun _ _ ⟨v, V, h1, h2, h3, h4⟩ => ⟨v, V, h1, h2, h3.1, h4⟩
end Go.Proofs.YtjgldaaofdpcgaaGreat
