/-
  Walks: the methods of ready.
-/
import Derived.Test.YteejlibiidiibaaF0
import Derived.Test.YteejlibiidiibaaInv
namespace Go.Proofs.Yteejlibiidiibaa
open Go.RowKit
set_option maxRecDepth 100000
/-- The slice of ready in its block. -/
structure RY (rb B : Nat) (xs : List Int) (v : Value) (w : World) : Prop where
  blk : w.heap[rb]? = some (.cells #[v] 42)
  own : w.ownsRow B 3 1 v xs.length (ic xs)
  lt : B ≤ rb
  sz : B ≤ w.heap.size
theorem RY.ne {rb B : Nat} {xs : List Int} {v : Value} {w : World} (h : RY rb B xs v w) {g : Nat} (hg : v.ownBlock = some g) : g ≠ rb := fun e => by
  obtain ⟨_, tc, h4⟩ := own_ty h.own hg
  rw [e, h.blk] at h4; cases h4
theorem len42_any (p : Option Addr) (n c : Nat) (w : World) : Calls Try.prog 25 #[.slice p n c] w fun e w' => e = .returned (.int .i64 n) ∧ w = w' := by
  go_enter Try.func25, Try.ntmps25
  go_wp2
  go_ret
  exact ⟨rfl, rfl⟩
theorem less_any (B : Nat) (p : Option Addr) (c : Nat) (xs : List Int) (i j : Nat) (w : World) (h : w.ownsRow B 3 1 (.slice p xs.length c) xs.length (ic xs)) (hi : i < xs.length) (hj : j < xs.length) (hl : xs.length ≤ 1000000) :
    Calls Try.prog 81 #[.slice p xs.length c, .int .i64 i, .int .i64 j] w fun e w' => e = .returned (.bool (decide (xs[i] < xs[j]))) ∧ w' = w.drew := by
  obtain ⟨g, rfl⟩ := own_ptr h (by omega)
  have hr := RC.of_own h
  obtain ⟨a, o, he, _, z1⟩ := hr.at hi
  obtain ⟨a', o', he', _, z2⟩ := hr.at hj
  injection he with he; injection he with h1 h2; subst h1 h2
  injection he' with he; injection he with h1 h2; subst h1 h2
  simp only [Nat.zero_add] at z1 z2
  have Hh := Lib.hid h
  clear h hr
  generalize xs[i] = x at *
  generalize xs[j] = y at *
  go_enter Try.func81, Try.ntmps81
  go_wp2_with (first
    | ((with_reducible refine Lex.at_region ?_); with_reducible refine Lex.wp_region_lex (by kernel_rfl) (by decide +kernel) ?_)
    | ((with_reducible refine Lex.at_fin ?_); with_reducible refine Lex.fin_on (by kernel_rfl) ?_))
  go_ret
  exact ⟨rfl, rfl⟩
/-- Two elements change places. -/
def swp (xs : List Int) (i j : Nat) : List Int := (xs.set i (xs.getD j 0)).set j (xs.getD i 0)
theorem own_set {w : World} {B : Nat} {g n c : Nat} {xs : List Int} (h : w.ownsRow B 3 1 (.slice (some ⟨g, 0, none⟩) n c) n (ic xs)) {i : Nat} (hi : i < n) (x : Int) :
    (w.setCell ⟨g, i, none⟩ (.int .i64 x)).ownsRow B 3 1 (.slice (some ⟨g, 0, none⟩) n c) n (ic (xs.set i x)) ∧ Tch g w (w.setCell ⟨g, i, none⟩ (.int .i64 x)) := by
  have hl := h.1
  rcases h.2 with ⟨h1, _⟩ | ⟨g', cap, cur, h1, h2, h3, h4, h5, h6, h7⟩
  · cases h1
  · injection h1 with q1 q2 q3
    injection q1 with q1; injection q1 with q1
    subst q1 q3
    have hU := Upd.set (i := i) (v := .int .i64 x) (Upd.refl h3)
    refine ⟨⟨by simpa [ic] using hl, .inr ⟨g, c, _, rfl, h2, hU.blk, h4, h5, by simpa using h6, ?_⟩⟩, _, hU⟩
    rw [Array.toList_setIfInBounds, List.take_set, h7]
    simp [ic, List.map_set]
theorem swap_any (B : Nat) (p : Option Addr) (c : Nat) (xs : List Int) (i j : Nat) (w : World) (h : w.ownsRow B 3 1 (.slice p xs.length c) xs.length (ic xs)) (hi : i < xs.length) (hj : j < xs.length) (hl : xs.length ≤ 1000000) :
    Calls Try.prog 84 #[.slice p xs.length c, .int .i64 i, .int .i64 j] w fun e w' => e = .returned (.tuple #[]) ∧ w'.ownsRow B 3 1 (.slice p xs.length c) xs.length (ic (swp xs i j)) ∧ ∃ g, p = some ⟨g, 0, none⟩ ∧ Tch g w w' := by
  obtain ⟨g, rfl⟩ := own_ptr h (by omega)
  have hr := RC.of_own h
  obtain ⟨a, o, he, _, z1⟩ := hr.at hi
  obtain ⟨a', o', he', _, z2⟩ := hr.at hj
  injection he with he; injection he with h1 h2; subst h1 h2
  injection he' with he; injection he with h1 h2; subst h1 h2
  simp only [Nat.zero_add] at z1 z2
  have e1 := own_set h hi xs[j]
  have e2 := own_set (xs := xs.set i xs[j]) e1.1 hj xs[i]
  have es : swp xs i j = (xs.set i xs[j]).set j xs[i] := by simp [swp, hi, hj]
  have f1 := h.frozenAt i
  have f2 := h.frozenAt j
  obtain ⟨a', o', he, _, z3⟩ := (RC.of_own e1.1).at (L := xs.set i xs[j]) (m := j) (by simpa using hj)
  injection he with he; injection he with h1 h2; subst h1 h2
  simp only [Nat.zero_add] at z3
  have f3 := e1.1.frozenAt j
  have Hh := Lib.hid h; have E1 := Lib.hid e1; have E2 := Lib.hid e2; have Es := Lib.hid es
  clear h hr e1 e2 es
  generalize xs[i] = x at *
  generalize xs[j] = y at *
  generalize (xs.set i y)[j]'_ = z at *
  go_enter Try.func84, Try.ntmps84
  go_wp2_with (first
    | ((with_reducible refine Lex.at_region ?_); with_reducible refine Lex.wp_region_lex (by kernel_rfl) (by decide +kernel) ?_)
    | ((with_reducible refine Lex.at_fin ?_); with_reducible refine Lex.fin_on (by kernel_rfl) ?_))
  go_end0
  refine ⟨rfl, ?_, ?_⟩
  · rw [Es.out]; exact ownsRow_at E2.out.1 fun _ _ => rfl
  · obtain ⟨o, h⟩ := E1.out.2.trans E2.out.2
    exact ⟨o, h.drew⟩
/-- How Push and Pop leave ready. -/
def YR (rb B : Nat) (xs : List Int) (x : Option Value) (w : World) (e : Ending) (w' : World) : Prop := ∃ v, e = .returned (x.getD (.tuple #[])) ∧ RY rb B xs v w' ∧ Below B w w' ∧ ∀ (k : Nat) (arr : Array Value) (t : TypeId), w.heap[k]? = some (.cells arr t) → k ≠ rb → (t ≠ 3 ∨ k < B) → w'.heap[k]? = w.heap[k]?
set_option maxHeartbeats 8000000 in
theorem rpop_any (rb B : Nat) (xs : List Int) (x : Int) (v : Value) (w : World) (h : RY rb B (xs ++ [x]) v w) (hl : xs.length ≤ 1000000) :
    Calls Try.prog 82 #[.pointer (some ⟨rb, 0, none⟩)] w (YR rb B xs (some (.iface 3 (.int .i64 x))) w) := by
  obtain ⟨p, c, rfl⟩ := own_slice h.own
  have hlen : (xs ++ [x]).length = xs.length + 1 := by simp
  have ho := h.own
  have z1 := one_cell h.blk
  rw [hlen] at ho z1
  obtain ⟨g, rfl⟩ := own_ptr ho (by omega)
  obtain ⟨a', o', he, _, z2⟩ := (RC.of_own ho).at (L := xs ++ [x]) (m := xs.length) (by simp)
  injection he with he; injection he with h1 h2; subst h1 h2
  rw [List.getElem_append_right (Nat.le_refl _)] at z2
  simp only [Nat.zero_add, Nat.sub_self, List.getElem_cons_zero] at z2
  have z3 := one_free h.blk 0
  have hc : xs.length ≤ c := by have := own_cap ho; omega
  have hu : Upd rb (.cells #[.slice (some ⟨g, 0, none⟩) xs.length c] 42) w (w.setCell ⟨rb, 0, none⟩ (.slice (some ⟨g, 0, none⟩) xs.length c)) := one_set h.blk
  have HU := Lib.hid hu; have HH := Lib.hid h; have Ho := Lib.hid (own_cut ho)
  clear hu h ho hlen
  go_enter Try.func82, Try.ntmps82
  go_wp2_with (first
    | ((with_reducible refine Lex.at_region ?_); with_reducible refine Lex.wp_region_lex (by kernel_rfl) (by decide +kernel) ?_)
    | ((with_reducible refine Lex.at_fin ?_); with_reducible refine Lex.fin_on (by kernel_rfl) ?_))
  have HV := HU.out.drew.drew
  go_ret
  refine ⟨_, rfl, ⟨HV.blk, ownsRow_at Ho.out fun g hg => HV.other g (fun e => by obtain ⟨_, tc, h4⟩ := own_ty Ho.out hg; rw [e, HH.out.blk] at h4; cases h4), HH.out.lt, by rw [HV.size]; exact HH.out.sz⟩, HV.below HH.out.lt, fun k arr t _ hk _ => HV.other k hk⟩
theorem RY.push {rb B : Nat} {xs : List Int} {x : Int} {v v' : Value} {w w1 w3 : World} (h : RY rb B xs v w) (h1 : w1 = w.alloc (.cells #[.int .i64 x] 3)) (h2 : Fr [] v v' w1 w3) (h3 : w3.ownsRow B 3 1 v' (xs.length + 1) (ic xs ++ ic [x])) :
    w3.heap[rb]? = some (.cells #[v] 42) ∧ RY rb B (xs ++ [x]) v' (w3.setCell ⟨rb, 0, none⟩ v') ∧ Below B w (w3.setCell ⟨rb, 0, none⟩ v') ∧ ∀ (k : Nat) (arr : Array Value) (t : TypeId), w.heap[k]? = some (.cells arr t) → k ≠ rb → (t ≠ 3 ∨ k < B) → (w3.setCell ⟨rb, 0, none⟩ v').heap[k]? = w.heap[k]? := by
  have hb1 : Below w.heap.size w w1 := h1 ▸ (Below.refl _ _).alloc (Nat.le_refl _) _
  have hs1 : w.heap.size ≤ w1.heap.size := hb1.size
  have hsz := h.sz
  have hlt := h.lt
  have hk : ∀ k, k < w.heap.size → v.ownBlock ≠ some k → w3.heap[k]? = w.heap[k]? := fun k hk hne => (h2.block k (by omega) (by simp) hne).trans (hb1.block k hk)
  have hblk3 := (hk rb (heap_lt h.blk) (fun e => h.ne e rfl)).trans h.blk
  have hu : Upd rb (.cells #[v'] 42) w3 (w3.setCell ⟨rb, 0, none⟩ v') := one_set hblk3
  have hown : w3.ownsRow B 3 1 v' (xs ++ [x]).length (ic (xs ++ [x])) := by
    rw [List.length_append, show ic (xs ++ [x]) = ic xs ++ ic [x] by simp [ic]]
    exact h3
  refine ⟨hblk3, ⟨hu.blk, ownsRow_at hown fun g hg => hu.other g (fun e => by obtain ⟨_, tc, h4⟩ := own_ty hown hg; rw [e, hblk3] at h4; cases h4), hlt, by rw [hu.size]; exact Nat.le_trans hsz (Nat.le_trans hs1 h2.size)⟩, ?_, fun k arr t hk' hne ht => ?_⟩
  · exact ((hb1.mono (by omega)).trans (h2.below (by omega) (by simp) fun g hg => by have := (h.own.lt g hg).1; omega)).trans (hu.below hlt)
  · refine (hu.other k hne).trans (hk k (heap_lt hk') fun e => ?_)
    obtain ⟨h4, tc, h5⟩ := own_ty h.own e
    rw [hk'] at h5; cases h5
    rcases ht with ht | ht
    · exact ht rfl
    · omega
set_option maxHeartbeats 8000000 in
theorem rpush_any (rb B : Nat) (xs : List Int) (x : Int) (v : Value) (w : World) (h : RY rb B xs v w) (hl : xs.length ≤ 1000000) :
    Calls Try.prog 83 #[.pointer (some ⟨rb, 0, none⟩), .iface 3 (.int .i64 x)] w (YR rb B (xs ++ [x]) none w) := by
  have z1 := one_cell h.blk
  have HH := Lib.hid h
  have H6 := Lib.hid (show RY rb B xs v w.drew from ⟨h.blk, ownsRow_at h.own fun _ _ => rfl, h.lt, h.sz⟩)
  have Z0 := Lib.hid (show w.drew.cell? ⟨rb, 0, none⟩ = _ from z1)
  have Hov := Lib.hid (show ∀ g, v.ownBlock = some g → ¬ (g = rb) from fun g hg e => h.ne hg e)
  have b6 : Below w.drew.heap.size w.drew (w.drew.alloc (.cells #[.int .i64 x] 3)) := (Below.refl _ _).alloc (Nat.le_refl _) _
  have n6 := heap_alloc_new w.drew (.cells #[.int .i64 x] 3)
  have Hbz := Lib.hid (show B ≤ (w.drew.alloc (.cells #[.int .i64 x] 3)).heap.size from Nat.le_trans h.sz b6.size)
  have Ho6 := Lib.hid (ownsRow_below H6.out.own b6 (Nat.le_refl _))
  have Hrc := Lib.hid (show RC (w.drew.alloc (.cells #[.int .i64 x] 3)) 1 (some ⟨w.drew.heap.size, 0, none⟩) 1 (ic [x]) from RC.row rfl n6 (fun j u hu => by simpa [ic] using hu))
  have hbd : xs.length + 1 ≤ 67108864 := by omega
  clear h b6 n6
  have hta : ∀ w, (Instr.typeAssert (.iface 3 (.int .i64 x)) 20 3 false).run Try.prog w = .ok (.int .i64 x) w := fun _ => by kernel_rfl
  go_enter Try.func83, Try.ntmps83
  go_wp2_with (first
    | ((with_reducible refine Lex.at_finK ?_); refine LexK.finE_on (by kernel_rfl) (by repeat first | exact LexK.finL_nil | refine LexK.finL_none rfl ?_ | refine LexK.finL_skip (by decide +kernel) ?_ | refine LexK.finL_take rfl rfl Z0.out ?_) ?_)
    | ((with_reducible refine Lex.at_region ?_); refine LexK.wp_region_lexE (fun x => x = rb) (by kernel_rfl) (by decide +kernel) ?_)
    | ((with_reducible refine Lex.at_wpX ?_); with_reducible refine LexK.wpX_plain (by decide +kernel) ?_)
    | ((with_reducible refine Lex.at_wpX ?_); with_reducible refine LexK.wpX_call ?_)
    | ((with_reducible refine Lex.at_wpX ?_); with_reducible refine LexK.wpX_nil ?_)
    | ((with_reducible refine Lex.at_ext ?_); with_reducible refine LexK.ext_on (LexK.Ext.alloc _ _) ?_)
    | ((with_reducible refine Lex.at_ext ?_); refine LexK.ext_on (ext_fr hf3 (by simp) Hov.out) ?_)
    | (at_builtin; go_loud (refine wpList_append_ownrc rfl (.tmp 7) (.tmp 10) 42 rfl 3 (by kernel_rfl) int_info rfl (by decide) (by decide) B _ (some ⟨w.heap.size, 0, none⟩) xs.length 1 1 _ (ic [x]) Hbz.out v rfl rfl Ho6.out Hrc.out (ic_one _) hbd ?_); intro v3 w3 ho3 hf3; have FO := Lib.hid (H6.out.push rfl hf3 ho3); obtain ⟨p3, c3, rfl⟩ := own_slice ho3; have g4 := one_cell FO.out.1; have g6 := one_free FO.out.1 0; clear ho3))
  go_end0
  exact ⟨_, rfl, FO.out.2.1, (show Below B w w.drew from (Below.refl _ _).drew).trans FO.out.2.2.1, FO.out.2.2.2⟩
end Go.Proofs.Yteejlibiidiibaa
