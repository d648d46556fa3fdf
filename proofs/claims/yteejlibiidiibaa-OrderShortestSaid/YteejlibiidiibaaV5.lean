/-
  Queues in the heap: a slice of the call's own that is cut at its head.
-/
import Derived.Test.YteejlibiidiibaaV4
namespace Go.Proofs.Yteejlibiidiibaa
open Go.RowKit
set_option maxRecDepth 100000
structure OQ (w : World) (B : Nat) (v : Value) (xs : List Int) : Prop where
  ex : ∃ (g o c : Nat) (arr : Array Value), v = .slice (some ⟨g, o, none⟩) xs.length c ∧ xs.length ≤ c ∧ B ≤ g ∧ w.heap[g]? = some (.cells arr 3) ∧ o + c ≤ arr.size ∧ ∀ (j : Nat) (u : Value), (ic xs)[j]? = some u → arr[o + j]? = some u
theorem OQ.made {w : World} {b B : Nat} {x : Int} (h : w.heap[b]? = some (.cells #[.int .i64 x] 3)) (hB : B ≤ b) : OQ w B (.slice (some ⟨b, 0, none⟩) 1 1) [x] :=
  ⟨b, 0, 1, _, rfl, Nat.le_refl _, hB, h, by simp, fun j u hu => by simpa [ic] using hu⟩
theorem OQ.is {w : World} {B : Nat} {v : Value} {xs : List Int} (h : OQ w B v xs) : IS w v xs := by
  obtain ⟨g, o, c, arr, rfl, h1, h2, h3, h4, h5⟩ := h.ex
  exact ⟨_, c, rfl, h1, by simp [ic_len], fun hn => ⟨g, o, rfl, heap_lt h3, fun j u hu => by simp [World.cell?, h3, h5 j u hu]⟩⟩
theorem OQ.rc {w : World} {B : Nat} {p : Option Addr} {n c : Nat} {xs : List Int} (h : OQ w B (.slice p n c) xs) : n = xs.length ∧ n ≤ c ∧ RC w 1 p n (ic xs) := by
  obtain ⟨p', c', h1, h2, h3⟩ := h.is
  injection h1 with q1 q2 q3
  subst q1 q2 q3
  exact ⟨rfl, h2, h3⟩
theorem OQ.at {w w' : World} {B : Nat} {v : Value} {xs : List Int} (h : OQ w B v xs) (e : ∀ g, B ≤ g → v.ownBlock = some g → w'.heap[g]? = w.heap[g]?) : OQ w' B v xs := by
  obtain ⟨g, o, c, arr, rfl, h1, h2, h3, h4⟩ := h.ex
  exact ⟨g, o, c, arr, rfl, h1, h2, (e g h2 rfl).trans h3, h4⟩
theorem OQ.ty {w : World} {B : Nat} {v : Value} {xs : List Int} (h : OQ w B v xs) {g : Nat} (hg : v.ownBlock = some g) : B ≤ g ∧ ∃ arr, w.heap[g]? = some (.cells arr 3) := by
  obtain ⟨g', o, c, arr, rfl, h1, h2, h3, h4⟩ := h.ex
  cases hg
  exact ⟨h2, arr, h3⟩
/-- 's[1:]'. -/
theorem OQ.cut {w : World} {B : Nat} {p : Option Addr} {n c : Nat} {x : Int} {xs : List Int} (h : OQ w B (.slice p n c) (x :: xs)) : ∃ g o, p = some ⟨g, o, none⟩ ∧ n = xs.length + 1 ∧ n ≤ c ∧ OQ w B (.slice (some ⟨g, o + 1, none⟩) xs.length (c - 1)) xs := by
  obtain ⟨g, o, c', arr, h0, h1, h2, h3, h4, h5⟩ := h.ex
  injection h0 with q1 q2 q3
  subst q1 q2 q3
  simp only [List.length_cons] at h1
  refine ⟨g, o, rfl, rfl, by simpa using h1, g, o + 1, c - 1, arr, rfl, by omega, h2, h3, by omega, fun j u hu => ?_⟩
  have := h5 (j + 1) u (by simpa [ic] using hu)
  rwa [show o + (j + 1) = o + 1 + j by omega] at this
/-- 's[1:]' where nothing is left of the array. -/
theorem OQ.cut0 {w : World} {B g o c : Nat} {n : Nat} {x : Int} {xs : List Int} (h : OQ w B (.slice (some ⟨g, o, none⟩) n c) (x :: xs)) (hc : c - 1 = 0) : OQ w B (.slice (some ⟨g, o, none⟩) xs.length 0) xs := by
  obtain ⟨g', o', c', arr, h0, h1, h2, h3, h4, h5⟩ := h.ex
  injection h0 with q1 q2 q3
  injection q1 with q1; injection q1 with e1 e2
  subst e1 e2 q3
  simp only [List.length_cons] at h1
  have : xs = [] := List.eq_nil_of_length_eq_zero (by omega)
  subst this
  exact ⟨g, o, 0, arr, rfl, by simp, h2, h3, by omega, fun j u hu => by simp [ic] at hu⟩
/-- One element is appended. -/
theorem wpList_append_oq {ops : Array Oper} {rest : List Oper} {o : Oper} {a : Act} {Q : Exit → Act → World → Prop} (hgd : o.guard = none) (s x : Operand)
    (ho : o.op = .call { callee := .builtin .append, args := #[s, x], argTypes := #[22, 22] })
    (B : Nat) (wx : World) (A2 : Option Addr) (c2 : Nat) (xs : List Int) (y : Int) (v : Value) (hs : a.eval s = v) (hx : a.eval x = .slice A2 1 c2) (hq : OQ wx B v xs) (h2 : RC wx 1 A2 1 (ic [y])) (hB : B ≤ wx.heap.size)
    (hbound : xs.length + 1 ≤ 67108864)
    (h : ∀ v' w', OQ w' B v' (xs ++ [y]) → Fr [] v v' wx w' → wpList Try.prog ops Q rest (a.put o.dst v') w') :
    wpList Try.prog ops Q (o :: rest) a wx := by
  obtain ⟨i, hi, hz, hz1, hz2⟩ := info_parts int_info
  refine wpList_plain hgd fun K hK => ?_
  obtain ⟨b2, o2, rfl, hb2, hcell⟩ := h2.2 (by omega)
  have hc : ∀ (j : Nat) (u : Value), (ic [y])[j]? = some u → wx.cell? ((⟨b2, o2, none⟩ : Addr).add j) = some u := fun j u hu => by rw [add_none]; exact hcell j u hu
  have hsrc := Src.ofSlice (P := Try.prog) (size := i.size) (tx := 22) (e' := 3) wx (by kernel_rfl) ⟨b2, o2, none⟩ 1 c2 (ic [y]) (by rw [hz1]; rfl) hc (ic_one _)
  obtain ⟨g, of, c, arr, rfl, h3, h4, h5, h6, h7⟩ := hq.ex
  by_cases hroom : xs.length + 1 ≤ c
  · have hin : of + xs.length < arr.size := by omega
    have hr := run_append_room_src (P := Try.prog) wx 22 22 o.type 3 i (by kernel_rfl) hi g of xs.length c _ 1 (ic [y]) hsrc hroom
      (fun j hj => by
        have : j = 0 := by simp [ic] at hj; omega
        subst this
        rw [hz1, Nat.mul_one, Nat.add_zero]
        simp [World.cell?, h5, hin])
      (fun j hj => by simp [World.frozen?, h5])
    unfold Oper.wp execOp
    simp only [ho, resolve, invoke, builtin, Sem.run_bind, Sem.run_pure, Result.andThen_ok, List.map_toArray, List.map_cons, List.map_nil, hs, hx, hr]
    have hset : wx.setCells g (of + xs.length * i.size) (ic [y]) = wx.setCell ⟨g, of + xs.length, none⟩ (.int .i64 y) := by rw [hz1, Nat.mul_one]; rfl
    have hU := Upd.set (i := of + xs.length) (v := .int .i64 y) (Upd.refl h5)
    rw [hset]
    refine hK _ _ (h _ _ ⟨g, of, c, _, by simp, by simpa using hroom, h4, hU.blk, by simpa using h6, fun j u hu => ?_⟩ ⟨hU.os, hU.tape, hU.output, by rw [hU.size]; exact Nat.le_refl _, fun k _ _ hk => hU.other k fun e => hk (by subst e; rfl), .inl rfl⟩)
    have hj : j < xs.length + 1 := by
      have := (List.getElem?_eq_some_iff.1 hu).1
      simpa [ic] using this
    rw [Array.getElem?_setIfInBounds]
    by_cases e : j = xs.length
    · subst e
      rw [if_pos rfl, if_pos hin]
      simpa [ic] using hu
    · rw [if_neg (by omega)]
      refine h7 j u ?_
      rw [← hu]
      simp only [ic, List.map_append]
      rw [List.getElem?_append_left (by simp; omega)]
  · have hg : c < xs.length + 1 := by omega
    have hfc := run_firstCells_some (P := Try.prog) wx.drew i.size xs.length ⟨g, of, none⟩ xs.length c (ic xs) (by rw [hz1]; simp [ic_len]) (fun j u hu => by
      rw [add_none]
      show wx.cell? _ = _
      simp [World.cell?, h5, h7 j u hu])
    have hr := run_append_grow_src (P := Try.prog) wx 22 22 o.type 3 i (.int .i64 0) (by kernel_rfl) hi hz (some ⟨g, of, none⟩) xs.length c (ic xs) hfc _ 1 (ic [y]) hsrc hg (by omega) (growslice_fits hg (by rw [hz2]; omega))
    unfold Oper.wp execOp
    simp only [ho, resolve, invoke, builtin, Sem.run_bind, Sem.run_pure, Result.andThen_ok, List.map_toArray, List.map_cons, List.map_nil, hs, hx, hr]
    have hge := grownCap_ge wx (xs.length + 1) c 3
    refine hK _ _ (h _ _ ⟨wx.heap.size, 0, _, _, by rw [List.length_append, List.length_singleton], by simpa using hge, hB, heap_alloc_new wx.drew _, ?_, fun j u hu => ?_⟩ ⟨rfl, rfl, rfl, by simp, fun k hk _ _ => ((Below.refl wx.heap.size wx).drew.alloc (Nat.le_refl _) _).block k hk, .inr fun g' hg' => by cases hg'; exact Nat.le_refl _⟩)
    · simp only [Array.size_append, List.size_toArray, size_zeroCells, ic, List.length_append, List.length_map]
      rw [show (Value.int .i64 0).cells.size = 1 from rfl]
      simp
      omega
    · rw [Nat.zero_add]
      have hj := (List.getElem?_eq_some_iff.1 hu).1
      rw [Array.getElem?_append_left (by simpa [ic] using hj)]
      simpa [ic] using hu
end Go.Proofs.Yteejlibiidiibaa
