/-
  The reference's components: what its loops reckon; rows of lists in the heap.
-/
import Derived.Test.YteejlibiidiibaaU0
import Derived.Test.YteejlibiidiibaaF6
namespace Go.Proofs.Yteejlibiidiibaa
open Go.RowKit
set_option maxRecDepth 100000
noncomputable def reachL (E : Gr) (i : Nat) : List Int := marked E.length (rb E (inS [(i : Int)]))
theorem rch_one {E : Gr} {i k : Nat} : Rch E (inS [(i : Int)]) k ↔ Pth E i k := by
  have e : inS [(i : Int)] = fun k => k == i := by
    funext k
    rw [Bool.eq_iff_iff]
    simp [inS]; omega
  rw [e]; exact Iff.rfl
theorem mem_reachL {E : Gr} {i : Nat} {x : Int} : x ∈ reachL E i ↔ ∃ k : Nat, x = (k : Int) ∧ Pth E i k := by
  unfold reachL
  rw [mem_marked]
  constructor
  · rintro ⟨k, _, h, rfl⟩; exact ⟨k, rfl, rch_one.1 (rb_iff.1 h)⟩
  · rintro ⟨k, rfl, h⟩; exact ⟨k, h.lt.2, rb_iff.2 (rch_one.2 h), rfl⟩
theorem mem_reachL_nat {E : Gr} {i k : Nat} : (k : Int) ∈ reachL E i ↔ Pth E i k := by
  rw [mem_reachL]
  constructor
  · rintro ⟨m, h, h2⟩
    have : k = m := by omega
    subst this; exact h2
  · exact fun h => ⟨k, rfl, h⟩
noncomputable def backB (E : Gr) (i : Nat) (x : Int) : Bool := decide ((i : Int) ∈ reachL E x.toNat)
noncomputable def sameL (E : Gr) (i m : Nat) : List Int := ((reachL E i).take m).filter (backB E i)
noncomputable def readyL (E : Gr) (f : Nat → Bool) (i m : Nat) : Bool := ((reachL E i).take m).all fun x => backB E i x || f x.toNat
theorem sameL_succ {E : Gr} {i m : Nat} (h : m < (reachL E i).length) : sameL E i (m + 1) = sameL E i m ++ (if backB E i (reachL E i)[m] then [(reachL E i)[m]] else []) := by
  unfold sameL
  rw [List.take_succ_eq_append_getElem h, List.filter_append]
  simp only [List.filter_cons, List.filter_nil]
theorem readyL_succ {E : Gr} {f : Nat → Bool} {i m : Nat} (h : m < (reachL E i).length) : readyL E f i (m + 1) = (readyL E f i m && (backB E i (reachL E i)[m] || f (reachL E i)[m].toNat)) := by
  unfold readyL
  rw [List.take_succ_eq_append_getElem h, List.all_append]
  simp
theorem sameL_all {E : Gr} {i : Nat} (hi : i < E.length) : sameL E i (reachL E i).length = cls E i := by
  unfold sameL
  rw [List.take_length]
  refine asc_ext ((marked_asc _ _).filter _) (marked_asc _ _) fun x => ?_
  rw [List.mem_filter, mem_reachL, mem_cls]
  constructor
  · rintro ⟨⟨k, rfl, h1⟩, h2⟩
    unfold backB at h2
    rw [decide_eq_true_iff, Int.toNat_natCast, mem_reachL_nat] at h2
    exact ⟨k, rfl, h1, h2⟩
  · rintro ⟨k, rfl, h1, h2⟩
    refine ⟨⟨k, rfl, h1⟩, ?_⟩
    unfold backB
    rw [decide_eq_true_iff, Int.toNat_natCast, mem_reachL_nat]
    exact h2
theorem readyL_all {E : Gr} {f : Nat → Bool} {D : Nat → Prop} (hf : ∀ k, k < E.length → (f k = true ↔ D k)) (i : Nat) : readyL E f i (reachL E i).length = true ↔ Rdy E D i := by
  unfold readyL
  rw [List.take_length, List.all_eq_true]
  constructor
  · intro h k hk
    have h1 := h _ (mem_reachL_nat.2 hk)
    rw [Bool.or_eq_true, Int.toNat_natCast] at h1
    rcases h1 with h1 | h1
    · unfold backB at h1
      rw [decide_eq_true_iff, Int.toNat_natCast, mem_reachL_nat] at h1
      exact .inr h1
    · exact .inl ((hf k hk.lt.2).1 h1)
  · intro h x hx
    obtain ⟨k, rfl, hk⟩ := mem_reachL.1 hx
    rw [Bool.or_eq_true, Int.toNat_natCast]
    rcases h k hk with h1 | h1
    · exact .inr ((hf k hk.lt.2).2 h1)
    · left
      unfold backB
      rw [decide_eq_true_iff, Int.toNat_natCast, mem_reachL_nat]
      exact h1
/-- The marks of what is done. -/
noncomputable def dnB (l : List (List Int)) (i : Nat) : Bool := @decide (inn l i) (Classical.propDecidable _)
theorem dnB_iff {l : List (List Int)} {i : Nat} : dnB l i = true ↔ inn l i := by unfold dnB; exact @decide_eq_true_iff _ (Classical.propDecidable _)
theorem inn_snoc {l : List (List Int)} {C : List Int} {i : Nat} : inn (l ++ [C]) i ↔ inn l i ∨ (i : Int) ∈ C := by
  unfold inn
  constructor
  · rintro ⟨D, h1, h2⟩
    rcases List.mem_append.1 h1 with h | h
    · exact .inl ⟨D, h, h2⟩
    · rw [List.mem_singleton] at h; subst h; exact .inr h2
  · rintro (⟨D, h1, h2⟩ | h)
    · exact ⟨D, by simp [h1], h2⟩
    · exact ⟨C, by simp, h⟩
theorem cnt_add {n : Nat} {f g h : Nat → Bool} (e : ∀ k, k < n → h k = (f k || g k)) (d : ∀ k, k < n → f k = true → g k = true → False) : cnt n h = cnt n f + cnt n g := by
  induction n with
  | zero => rfl
  | succ n ih =>
    have s : ∀ Q : Nat → Bool, cnt (n + 1) Q = cnt n Q + if Q n then 1 else 0 := fun Q => by
      simp [cnt, List.range_succ, List.countP_append, List.countP_cons]
    rw [s, s, s, ih (fun k hk => e k (by omega)) (fun k hk => d k (by omega)), e n (by omega)]
    have := d n (by omega)
    cases hf : f n <;> cases hg : g n
    · simp
    · simp; omega
    · simp; omega
    · exact (this hf hg).elim
theorem marked_cnt (n : Nat) (f : Nat → Bool) : (marked n f).length = cnt n f := by
  unfold marked cnt
  rw [List.length_map, List.countP_eq_length_filter]
theorem TopoAt.cnt {E : Gr} {out : List (List Int)} {i : Nat} (hi : ¬ inn out i) (hT : ∀ k j, Mut E k j → inn out k → inn out j) : Yteejlibiidiibaa.cnt E.length (dnB (out ++ [cls E i])) = Yteejlibiidiibaa.cnt E.length (dnB out) + (cls E i).length := by
  unfold cls
  rw [marked_cnt]
  refine cnt_add (fun k hk => ?_) fun k hk h1 h2 => ?_
  · rw [Bool.eq_iff_iff, Bool.or_eq_true, dnB_iff, dnB_iff, inn_snoc, mutB_iff]
    constructor
    · rintro (h | h)
      · exact .inl h
      · obtain ⟨q, e, h⟩ := mem_cls.1 h
        have : k = q := by omega
        subst this; exact .inr h
    · rintro (h | h)
      · exact .inl h
      · exact .inr (mem_cls.2 ⟨k, rfl, h⟩)
  · exact hi (hT k i (mutB_iff.1 h2).symm (dnB_iff.1 h1))
theorem Topo.closed {E : Gr} {out : List (List Int)} (h : Topo E out) {k j : Nat} (hm : Mut E k j) (hk : inn out k) : inn out j := by
  obtain ⟨C, hC, hkC⟩ := hk
  obtain ⟨t, ht, e⟩ := List.mem_iff_getElem.1 hC
  obtain ⟨i, _, hCi, _⟩ := h t C (by rw [List.getElem?_eq_getElem ht, e])
  refine ⟨C, hC, ?_⟩
  rw [hCi] at hkC ⊢
  obtain ⟨q, e2, h2⟩ := mem_cls.1 hkC
  have : k = q := by omega
  subst this
  exact mem_cls.2 ⟨j, rfl, h2.trans hm⟩

/-! ### Rows of lists -/
theorem I3.of_own {w : World} {B : Nat} {v : Value} {xs : List Int} (h : w.ownsRow B 3 1 v xs.length (ic xs)) : I3 w v xs := by
  obtain ⟨p, cap, rfl⟩ := own_slice h
  refine ⟨p, cap, rfl, own_cap h, by simp [ic_len], fun hn => ?_⟩
  rcases h.2 with ⟨_, h0⟩ | ⟨g, cap', cur, h1, h2, h3, h4, h5, h6, h7⟩
  · omega
  · injection h1 with q1 q2 q3
    refine ⟨g, 0, cur, q1, h3, fun j u hu => ?_⟩
    rw [← h7, List.getElem?_take] at hu
    split at hu
    · simpa using hu
    · cases hu
structure VT (w : World) (b n : Nat) (g : Nat → List Int) : Prop where
  ex : ∃ tc : Array Value, w.heap[b]? = some (.cells tc 22) ∧ ∀ m, m < n → ∃ v, tc[m]? = some v ∧ I3 w v (g m)
theorem VT.lt {w : World} {b n : Nat} {g : Nat → List Int} (h : VT w b n g) : b < w.heap.size := by obtain ⟨tc, h1, _⟩ := h.ex; exact heap_lt h1
theorem VT.free {w : World} {b n : Nat} {g : Nat → List Int} (h : VT w b n g) (i : Nat) : w.frozen? ⟨b, i, none⟩ = false := by
  obtain ⟨tc, h1, _⟩ := h.ex
  simp [World.frozen?, h1]
theorem VT.below {w w' : World} {b n : Nat} {g : Nat → List Int} (h : VT w b n g) (hb : Below w.heap.size w w') : VT w' b n g := by
  obtain ⟨tc, h1, h2⟩ := h.ex
  exact ⟨tc, (hb.block _ (heap_lt h1)).trans h1, fun m hm => by obtain ⟨v, h3, h4⟩ := h2 m hm; exact ⟨v, h3, h4.below hb⟩⟩
theorem VT.cell {w : World} {b n : Nat} {g : Nat → List Int} (h : VT w b n g) {m : Nat} (hm : m < n) : ∃ v, w.cell? ⟨b, m, none⟩ = some v ∧ I3 w v (g m) := by
  obtain ⟨tc, h1, h2⟩ := h.ex
  obtain ⟨v, h3, h4⟩ := h2 m hm
  exact ⟨v, by simp [World.cell?, h1, h3], h4⟩
theorem VT.made (w : World) (n : Nat) : VT (w.alloc (.cells (madeCells #[.slice none 0 0] n) 22)) w.heap.size n fun _ => [] := by
  refine ⟨_, heap_alloc_new w _, fun m hm => ⟨.slice none 0 0, ?_, I3.nil _⟩⟩
  simp [madeCells, hm, Nat.mod_one]
theorem VT.set {w : World} {b n : Nat} {g : Nat → List Int} (h : VT w b n g) {k : Nat} (hk : k < n) {v : Value} {l : List Int} (hv : I3 w v l) : VT (w.setCell ⟨b, k, none⟩ v) b n (fun m => if m = k then l else g m) ∧ Tch b w (w.setCell ⟨b, k, none⟩ v) := by
  obtain ⟨tc, h1, h2⟩ := h.ex
  have hU := Upd.set (i := k) (v := v) (Upd.refl h1)
  have keep : ∀ {v : Value} {l : List Int}, I3 w v l → I3 (w.setCell ⟨b, k, none⟩ _) v l := fun hv => hv.keep fun a arr ha => hU.other a fun e => by subst e; rw [h1] at ha; cases ha
  refine ⟨⟨_, hU.blk, fun m hm => ?_⟩, _, hU⟩
  obtain ⟨u, h3, h4⟩ := h2 m hm
  have hl : k < tc.size := by
    obtain ⟨u', h5, _⟩ := h2 k hk
    exact (Array.getElem?_eq_some_iff.1 h5).1
  rw [Array.getElem?_setIfInBounds]
  by_cases e : k = m
  · subst e
    refine ⟨v, by simp [hl], ?_⟩
    rw [if_pos rfl]; exact keep hv
  · exact ⟨u, by rw [if_neg e]; exact h3, by rw [if_neg fun e2 => e e2.symm]; exact keep h4⟩
theorem VT.congr {w : World} {b n : Nat} {f g : Nat → List Int} (h : VT w b n f) (e : ∀ m, m < n → g m = f m) : VT w b n g := by
  obtain ⟨tc, h1, h2⟩ := h.ex
  exact ⟨tc, h1, fun m hm => by rw [e m hm]; exact h2 m hm⟩
theorem run_make_rows (n : Nat) (hn : n ≤ 100000) (w : World) : (Instr.makeSlice 23 (.int .i64 n) (.int .i64 n)).run Try.prog w = .ok (.slice (some ⟨w.heap.size, 0, none⟩) n n) (w.alloc (.cells (madeCells #[.slice none 0 0] n) 22)) := by
  obtain ⟨ib, hi, hz, hz1, hz2⟩ := info_parts slice_info
  exact run_make_row (P := Try.prog) 23 22 ib (.slice none 0 0) (by kernel_rfl) hi hz hz1 rfl .i64 .i64 n (by rw [hz2]; omega) (by omega) w
theorem run_make_bool (n : Nat) (hn : n ≤ 100000) (w : World) : (Instr.makeSlice 46 (.int .i64 n) (.int .i64 n)).run Try.prog w = .ok (.slice (some ⟨w.heap.size, 0, none⟩) n n) (w.alloc (.cells (madeCells #[.bool false] n) 4)) := by
  obtain ⟨ib, hi, hz, hz1, hz2⟩ := info_parts bool_info
  exact run_make_row (P := Try.prog) 46 4 ib (.bool false) (by kernel_rfl) hi hz hz1 rfl .i64 .i64 n (by rw [hz2]; omega) (by omega) w
end Go.Proofs.Yteejlibiidiibaa
