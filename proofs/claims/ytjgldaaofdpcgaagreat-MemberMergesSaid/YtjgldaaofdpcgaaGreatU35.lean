/- Walks and plain facts for the laws of membership, for all values and types that the heap holds (texts W7 X3 X4 X9). -/
import Derived.Test.YtjgldaaofdpcgaaGreatU32
import Derived.Test.YtjgldaaofdpcgaaGreatU34
set_option linter.unusedVariables false
set_option linter.unusedSimpArgs false
namespace Go.Proofs.YtjgldaaofdpcgaaGreat
open Go.RowKit Go.Ident
set_option maxRecDepth 100000
set_option maxHeartbeats 16000000 in
theorem vk13_any (n : TN) (hk : n.kind = 13) (w : World) (cs : List Value) (h : NC w n cs) : Calls Tryz.prog 52 #[.agg cs.toArray] w (ER (kindN n) w) := by
  have Hr := Lib.hid (show kindN n = fieldsOk n.fields by unfold kindN; simp [hk])
  obtain ⟨p1, c1, p2, c2, rfl, -, hF⟩ := h
  rw [hk]
  clear hk
  go_enter Tryz.func52, Tryz.ntmps52
  go_upto_region 1 with fail
  have hA := heap_alloc_new w (.cells #[.int .i64 13, .int .i64 n.lo, .int .i64 n.hi, .string n.text, .slice p1 n.kids.length c1, .slice p2 n.fields.length c2, .int .i64 n.rest0, .int .i64 n.rest1] 48)
  have hb : Below w.heap.size w (w.alloc (.cells #[.int .i64 13, .int .i64 n.lo, .int .i64 n.hi, .string n.text, .slice p1 n.kids.length c1, .slice p2 n.fields.length c2, .int .i64 n.rest0, .int .i64 n.rest1] 48)) := (Below.refl _ _).alloc (Nat.le_refl _) _
  generalize w.alloc (.cells #[.int .i64 13, .int .i64 n.lo, .int .i64 n.hi, .string n.text, .slice p1 n.kids.length c1, .slice p2 n.fields.length c2, .int .i64 n.rest0, .int .i64 n.rest1] 48) = w2 at *
  have Hb := Lib.hid hb
  obtain ⟨⟨f0, f1, f2, f3⟩, f4, f5, f6, f7⟩ := cells8 hA
  have Hat := Lib.hid (validFields_any n.fields w2 p2 c2 (hF.below hb fun _ _ _ h => h))
  clear hA hb hF
  generalize fieldsOk n.fields = c at *
  go_wp2_with (go_at_call 88; refine Hat.out.mono ?_; rintro e w3 ⟨rfl, hb3⟩; have Hb3 := Lib.hid (Hb.out.step hb3); clear hb3)
  go_ret
  rw [Hr.out]
  exact ⟨rfl, Hb3.out⟩
set_option maxHeartbeats 16000000 in
theorem vkO_any (n : TN) (hk : n.kind ≠ 1 ∧ n.kind ≠ 2 ∧ n.kind ≠ 5 ∧ n.kind ≠ 7 ∧ n.kind ≠ 8 ∧ n.kind ≠ 9 ∧ n.kind ≠ 11 ∧ n.kind ≠ 15 ∧ n.kind ≠ 3 ∧ n.kind ≠ 4 ∧ n.kind ≠ 6 ∧ n.kind ≠ 19 ∧ n.kind ≠ 10 ∧ n.kind ≠ 12 ∧ n.kind ≠ 13 ∧ n.kind ≠ 14 ∧ n.kind ≠ 16 ∧ n.kind ≠ 17 ∧ n.kind ≠ 18) (w : World) (cs : List Value) (h : NC w n cs) : Calls Tryz.prog 52 #[.agg cs.toArray] w (ER (kindN n) w) := by
  have Hr := Lib.hid (show kindN n = false by
    unfold kindN
    obtain ⟨k1, k2, k5, k7, k8, k9, k11, k15, k3, k4, k6, k19, k10, k12, k13, k14, k16, k17, k18⟩ := hk
    simp only [k3, k4, k6, k19, k10, k12, k13, k14, k16, k17, k18, if_false, or_self]
    simp only [Bool.and_eq_false_iff, decide_eq_false_iff_not]
    omega)
  obtain ⟨p1, c1, p2, c2, rfl, -, -⟩ := h
  obtain ⟨k1, k2, k5, k7, k8, k9, k11, k15, k3, k4, k6, k19, k10, k12, k13, k14, k16, k17, k18⟩ := hk
  replace k1 : (n.kind == 1) = false := by rw [Bool.eq_false_iff]; intro g; exact k1 (by simpa using g)
  replace k2 : (n.kind == 2) = false := by rw [Bool.eq_false_iff]; intro g; exact k2 (by simpa using g)
  replace k5 : (n.kind == 5) = false := by rw [Bool.eq_false_iff]; intro g; exact k5 (by simpa using g)
  replace k7 : (n.kind == 7) = false := by rw [Bool.eq_false_iff]; intro g; exact k7 (by simpa using g)
  replace k8 : (n.kind == 8) = false := by rw [Bool.eq_false_iff]; intro g; exact k8 (by simpa using g)
  replace k9 : (n.kind == 9) = false := by rw [Bool.eq_false_iff]; intro g; exact k9 (by simpa using g)
  replace k11 : (n.kind == 11) = false := by rw [Bool.eq_false_iff]; intro g; exact k11 (by simpa using g)
  replace k15 : (n.kind == 15) = false := by rw [Bool.eq_false_iff]; intro g; exact k15 (by simpa using g)
  replace k3 : (n.kind == 3) = false := by rw [Bool.eq_false_iff]; intro g; exact k3 (by simpa using g)
  replace k4 : (n.kind == 4) = false := by rw [Bool.eq_false_iff]; intro g; exact k4 (by simpa using g)
  replace k6 : (n.kind == 6) = false := by rw [Bool.eq_false_iff]; intro g; exact k6 (by simpa using g)
  replace k19 : (n.kind == 19) = false := by rw [Bool.eq_false_iff]; intro g; exact k19 (by simpa using g)
  replace k10 : (n.kind == 10) = false := by rw [Bool.eq_false_iff]; intro g; exact k10 (by simpa using g)
  replace k12 : (n.kind == 12) = false := by rw [Bool.eq_false_iff]; intro g; exact k12 (by simpa using g)
  replace k13 : (n.kind == 13) = false := by rw [Bool.eq_false_iff]; intro g; exact k13 (by simpa using g)
  replace k14 : (n.kind == 14) = false := by rw [Bool.eq_false_iff]; intro g; exact k14 (by simpa using g)
  replace k16 : (n.kind == 16) = false := by rw [Bool.eq_false_iff]; intro g; exact k16 (by simpa using g)
  replace k17 : (n.kind == 17) = false := by rw [Bool.eq_false_iff]; intro g; exact k17 (by simpa using g)
  replace k18 : (n.kind == 18) = false := by rw [Bool.eq_false_iff]; intro g; exact k18 (by simpa using g)
  go_enter Tryz.func52, Tryz.ntmps52
  go_upto_region 1 with fail
  have hA := heap_alloc_new w (.cells #[.int .i64 n.kind, .int .i64 n.lo, .int .i64 n.hi, .string n.text, .slice p1 n.kids.length c1, .slice p2 n.fields.length c2, .int .i64 n.rest0, .int .i64 n.rest1] 48)
  have hb : Below w.heap.size w (w.alloc (.cells #[.int .i64 n.kind, .int .i64 n.lo, .int .i64 n.hi, .string n.text, .slice p1 n.kids.length c1, .slice p2 n.fields.length c2, .int .i64 n.rest0, .int .i64 n.rest1] 48)) := (Below.refl _ _).alloc (Nat.le_refl _) _
  generalize w.alloc (.cells #[.int .i64 n.kind, .int .i64 n.lo, .int .i64 n.hi, .string n.text, .slice p1 n.kids.length c1, .slice p2 n.fields.length c2, .int .i64 n.rest0, .int .i64 n.rest1] 48) = w2 at *
  have Hb := Lib.hid hb
  obtain ⟨⟨f0, f1, f2, f3⟩, f4, f5, f6, f7⟩ := cells8 hA
  clear hA hb
  go_wp2
  go_ret
  rw [Hr.out]
  exact ⟨rfl, Hb.out⟩
theorem validKind_any (n : TN) (w : World) (cs : List Value) (h : NC w n cs) : Calls Tryz.prog 52 #[.agg cs.toArray] w (ER (kindN n) w) := by
  by_cases h13 : n.kind = 13
  · exact vk13_any n h13 w cs h
  by_cases hq : (n.kind = 1 ∨ n.kind = 2 ∨ n.kind = 5 ∨ n.kind = 7 ∨ n.kind = 8 ∨ n.kind = 9 ∨ n.kind = 11 ∨ n.kind = 15) ∨ (n.kind = 3) ∨ (n.kind = 4) ∨ (n.kind = 6) ∨ (n.kind = 19) ∨ (n.kind = 10) ∨ (n.kind = 12) ∨ (n.kind = 14) ∨ (n.kind = 16 ∨ n.kind = 17) ∨ (n.kind = 18)
  · exact vk_any n hq w cs h
  exact vkO_any n (by omega) w cs h
end Go.Proofs.YtjgldaaofdpcgaaGreat
namespace Go.Proofs.YtjgldaaofdpcgaaGreat
open Go.RowKit Go.Ident
set_option maxRecDepth 100000
def WR (T : Ty) (w : World) (e : Ending) (w' : World) : Prop := ∃ c : Int, e = .returned (.int .i64 c) ∧ (c = 0 ↔ WfT T) ∧ Below w.heap.size w w'
theorem bool_edges {T : Ty} {n : TN} (h : nodeT T n = true) : ∀ k ∈ n.kids, T.has k = true := by
  unfold nodeT at h
  rw [Bool.and_eq_true, List.all_eq_true] at h
  intro k hk
  exact h.2 k (List.mem_append_left _ hk)
theorem kids_of {T : Ty} (h : ∀ i (hi : i < T.nodes.length), nodeT T T.nodes[i] = true) : KidsT T := fun i hi _ k hk => by
  rw [T.node_at hi] at hk
  exact bool_edges (h i hi) k hk
theorem wf_of {T : Ty} (hr : T.has T.root = true) (h : ∀ i (hi : i < T.nodes.length), nodeT T T.nodes[i] = true) : WfT T ↔ Ctr T :=
  ⟨fun g => g.ctr, fun g => ⟨hr, fun n hn => by obtain ⟨i, hi, rfl⟩ := List.mem_iff_getElem.1 hn; exact h i hi, g⟩⟩
theorem not_wf {T : Ty} {i : Nat} (hi : i < T.nodes.length) (h : nodeT T T.nodes[i] = false) : ¬ WfT T := fun g => by
  have := g.nodes _ (List.getElem_mem hi)
  rw [h] at this
  cases this
structure SzT (T : Ty) : Prop where
  len : T.len ≤ 100000
  kids : ∀ n ∈ T.nodes, n.kids.length ≤ 1048576 ∧ n.fields.length ≤ 1048576
open Classical in
set_option maxHeartbeats 16000000 in
theorem wellFormed_any (T : Ty) (w : World) (t : Value) (ht : TS w t T) (hs : SzT T) : Calls Tryz.prog 29 #[t] w (WR T w) := by
  have HS := Lib.hid hs
  have HT := Lib.hid ht
  obtain ⟨pt, ct, rfl, hrow, -⟩ := ht
  have HR := Lib.hid hrow
  have hL := hrow.big
  clear hs hrow
  go_enter Tryz.func29, Tryz.ntmps29
  go_upto_region 1 with fail
  have hA := heap_alloc_new w (.cells #[.slice pt T.nodes.length ct, .int .i64 T.root] 31)
  have hb : Below w.heap.size w (w.alloc (.cells #[.slice pt T.nodes.length ct, .int .i64 T.root] 31)) := (Below.refl _ _).alloc (Nat.le_refl _) _
  generalize w.alloc (.cells #[.slice pt T.nodes.length ct, .int .i64 T.root] 31) = w1 at *
  obtain ⟨t0, t1⟩ := cells2 hA
  have hlA := heap_lt hA
  have HA := Lib.hid hA; have Hb := Lib.hid hb
  clear hA hb
  by_cases r0 : T.root < 0
  · have d0 : decide (T.root < 0) = true := by simp [r0]
    have Hno := Lib.hid (show ¬ WfT T from fun g => by have := (has_iff.1 g.root).1; omega)
    clear r0
    go_wp2
    go_ret
    exact ⟨1, rfl, ⟨fun h => absurd h (by decide), fun h => absurd h Hno.out⟩, Hb.out⟩
  have d0 : decide (T.root < 0) = false := by simp; omega
  by_cases r1 : T.root < (T.nodes.length : Int)
  rotate_left
  · have d1 : decide ((T.nodes.length : Int) ≤ T.root) = true := by simp; omega
    have Hno := Lib.hid (show ¬ WfT T from fun g => by have := (has_iff.1 g.root).2; unfold Ty.len at this; omega)
    clear r0 r1
    go_wp2
    go_ret
    exact ⟨1, rfl, ⟨fun h => absurd h (by decide), fun h => absurd h Hno.out⟩, Hb.out⟩
  have d1 : decide ((T.nodes.length : Int) ≤ T.root) = false := by simp; omega
  have Hroot := Lib.hid (show T.has T.root = true from has_iff.2 ⟨by omega, r1⟩)
  clear r0 r1
  go_wp2
  clear d0 d1
  go_loopw [21] (fun i wr => ∃ k : Nat, i = .int .i64 k ∧ k ≤ T.nodes.length ∧ (∀ j (h : j < T.nodes.length), j < k → nodeT T T.nodes[j] = true) ∧ Below w1.heap.size w1 wr) (fun i _ => T.nodes.length - (intOf i).toNat)
  case atStart => exact ⟨0, rfl, by omega, fun j _ h => by omega, Below.refl _ _⟩
  case round =>
    obtain ⟨k, rfl, hk, hall, hbr⟩ := hrel
    have Hall := Lib.hid hall; have Hbr := Lib.hid hbr; have Hbw := Lib.hid (Hb.out.step hbr)
    clear hall hbr t0 t1
    by_cases hlt : k < T.nodes.length
    · obtain ⟨a, o, cs, rfl, hab, -, hrng, hN⟩ := HR.out.all hlt
      have HN := Lib.hid hN
      obtain ⟨p1, c1, p2, c2, rfl, -, -⟩ := hN
      have hr := hrng wr Hbw.out
      have z0 := hr 0 _ rfl
      have z1 := hr 1 _ rfl
      have z2 := hr 2 _ rfl
      have z3 := hr 3 _ rfl
      have z4 := hr 4 _ rfl
      have z5 := hr 5 _ rfl
      have z6 := hr 6 _ rfl
      have z7 := hr 7 _ rfl
      rw [Nat.add_zero] at z0
      have Hno := Lib.hid (not_wf hlt)
      have Hnx := Lib.hid (show nodeT T T.nodes[k] = true → ∀ j (h : j < T.nodes.length), j < k + 1 → nodeT T T.nodes[j] = true from fun g j h hj => by
        rcases Nat.lt_succ_iff_lt_or_eq.1 hj with g2 | rfl
        · exact Hall.out j h g2
        · exact g)
      have hsz := HS.out.kids _ (List.getElem_mem hlt)
      clear hr hrng Hall
      generalize T.nodes[k] = n at *
      obtain ⟨wo', hwo⟩ : ∃ wo' : World, wo' = wr := ⟨_, rfl⟩
      subst hwo
      go_upto_region 6 with fail
      have hnew := heap_alloc_new wo' (.cells #[.int .i64 n.kind, .int .i64 n.lo, .int .i64 n.hi, .string n.text, .slice p1 n.kids.length c1, .slice p2 n.fields.length c2, .int .i64 n.rest0, .int .i64 n.rest1] 48)
      have ho : Below wo'.heap.size wo' (wo'.alloc (.cells #[.int .i64 n.kind, .int .i64 n.lo, .int .i64 n.hi, .string n.text, .slice p1 n.kids.length c1, .slice p2 n.fields.length c2, .int .i64 n.rest0, .int .i64 n.rest1] 48)) := (Below.refl _ _).alloc (Nat.le_refl _) _
      generalize wo'.alloc (.cells #[.int .i64 n.kind, .int .i64 n.lo, .int .i64 n.hi, .string n.text, .slice p1 n.kids.length c1, .slice p2 n.fields.length c2, .int .i64 n.rest0, .int .i64 n.rest1] 48) = w5 at *
      have Hbr5 := Lib.hid (Hbr.out.step ho)
      obtain ⟨⟨f0, f1, f2, f3⟩, f4, f5, f6, f7⟩ := cells8 hnew
      have hlN := heap_lt hnew
      have Hnew := Lib.hid hnew
      have Hpl := Lib.hid (fun (w6 : World) (h6 : Below w5.heap.size w5 w6) => plainNode_any n w6 _ (HN.out.below (Hb.out.step (Hbr5.out.step h6))))
      have Hvk := Lib.hid (fun (w6 : World) (h6 : Below w5.heap.size w5 w6) => validKind_any n w6 _ (HN.out.below (Hb.out.step (Hbr5.out.step h6))))
      have Hsz := Lib.hid hsz
      have Hed := Lib.hid (fun (w6 : World) (h6 : Below w5.heap.size w5 w6) => edges_any n w6 _ (HN.out.below (Hb.out.step (Hbr5.out.step h6))) hsz)
      clear z0 z1 z2 z3 z4 z5 z6 z7 hnew ho hsz
      cases hp : plainN n with
      | false =>
        rw [hp] at Hpl
        have Hno2 := Lib.hid (Hno.out (by unfold nodeT; rw [hp]; simp))
        clear hp
        go_wp2_with (go_at_call 51; refine (Hpl.out w5 (Below.refl _ _)).mono ?_; rintro e w6 ⟨rfl, hb6⟩; have Hb6 := Lib.hid (Hbr5.out.step hb6); clear hb6)
        go_ret
        exact ⟨1, rfl, ⟨fun h => absurd h (by decide), fun h => absurd h Hno2.out⟩, Hb.out.step Hb6.out⟩
      | true =>
      rw [hp] at Hpl
      have Hp := Lib.hid hp
      clear hp
      cases hq : kindN n with
      | false =>
        rw [hq] at Hvk
        have Hno2 := Lib.hid (Hno.out (by unfold nodeT; rw [hq]; simp))
        clear hq
        go_wp2_with (first
          | (go_at_call 51; refine (Hpl.out w5 (Below.refl _ _)).mono ?_; rintro e w6 ⟨rfl, hb6⟩; have Hb6 := Lib.hid hb6; have hA6 := ((hb6.block _ hlN).trans Hnew.out); clear f0 f1 f2 f3 f4 f5 f6 f7 hb6; obtain ⟨⟨f0, f1, f2, f3⟩, f4, f5, f6, f7⟩ := cells8 hA6; clear hA6)
          | (go_at_call 52; refine (Hvk.out w6 Hb6.out).mono ?_; rintro e w7 ⟨rfl, hb7⟩; have Hb7 := Lib.hid (Hbr5.out.step (Hb6.out.step hb7)); clear hb7))
        go_ret
        exact ⟨1, rfl, ⟨fun h => absurd h (by decide), fun h => absurd h Hno2.out⟩, Hb.out.step Hb7.out⟩
      | true =>
      rw [hq] at Hvk
      have Hq := Lib.hid hq
      clear hq
      go_wp2_with (first
        | (go_at_call 51; refine (Hpl.out w5 (Below.refl _ _)).mono ?_; rintro e w6 ⟨rfl, hb6⟩; have Hb6 := Lib.hid hb6; have hA6 := ((hb6.block _ hlN).trans Hnew.out); clear f0 f1 f2 f3 f4 f5 f6 f7 hb6; obtain ⟨⟨f0, f1, f2, f3⟩, f4, f5, f6, f7⟩ := cells8 hA6; clear hA6)
        | (go_at_call 52; refine (Hvk.out w6 Hb6.out).mono ?_; rintro e w7 ⟨rfl, hb7⟩; have Hb7 := Lib.hid (Hb6.out.step hb7); have hA7 := (Hb7.out.block _ hlN).trans Hnew.out; clear f0 f1 f2 f3 f4 f5 f6 f7 hb7; obtain ⟨⟨f0, f1, f2, f3⟩, f4, f5, f6, f7⟩ := cells8 hA7; clear hA7)
        | (go_at_call 53; refine (Hed.out w7 Hb7.out).mono ?_; rintro e w8 ⟨v8, rfl, hi8, hb8⟩; obtain ⟨p8, c8, rfl, -, -⟩ := (id hi8); have Hi8 := Lib.hid hi8; have Hb8 := Lib.hid (Hbr5.out.step (Hb7.out.step hb8)); have hA8 := (Hb8.out.block _ hlA).trans HA.out; clear f0 f1 f2 f3 f4 f5 f6 f7 hb8 hi8; obtain ⟨t0, t1⟩ := cells2 hA8; clear hA8))
      have hE : (edgesN n).length ≤ 9223372036854775807 := by
        have := Hsz.out
        unfold edgesN
        simp only [List.length_append, List.length_map]
        split <;> simp <;> omega
      have Hnt := Lib.hid (show (∀ e ∈ edgesN n, T.has e = true) → nodeT T n = true from fun h => by
        unfold nodeT
        rw [Hp.out, Hq.out]
        simpa [List.all_eq_true] using h)
      have Hnf := Lib.hid (show ∀ e ∈ edgesN n, T.has e = false → nodeT T n = false from fun e he h => by
        rw [Bool.eq_false_iff]
        intro g
        unfold nodeT at g
        rw [Bool.and_eq_true, List.all_eq_true] at g
        rw [g.2 e he] at h
        cases h)
      generalize edgesN n = E at *
      go_loopw [36] (fun i w9 => ∃ m : Nat, i = .int .i64 m ∧ m ≤ E.length ∧ (∀ j (h : j < E.length), j < m → T.has E[j] = true) ∧ Below w8.heap.size w8 w9) (fun i _ => E.length - (intOf i).toNat)
      case atStart => exact ⟨0, rfl, by omega, fun j _ h => by omega, Below.refl _ _⟩
      case round =>
        obtain ⟨m, rfl, hm, hall9, hb9⟩ := hrel
        have Hall9 := Lib.hid hall9; have Hb9 := Lib.hid hb9; have Hbt9 := Lib.hid (Hb8.out.step hb9)
        clear hall9 hb9 t0 t1
        by_cases hlm : m < E.length
        · obtain ⟨-, a9, o9, rfl, -, y0⟩ := (Hi8.out.below Hb9.out).at hlm
          obtain ⟨t0, t1⟩ := cells2 ((Hbt9.out.block _ hlA).trans HA.out)
          have hmem := List.getElem_mem hlm
          have Hnx9 := Lib.hid (show T.has E[m] = true → ∀ j (h : j < E.length), j < m + 1 → T.has E[j] = true from fun g j h hj => by
            rcases Nat.lt_succ_iff_lt_or_eq.1 hj with g2 | rfl
            · exact Hall9.out j h g2
            · exact g)
          have Hno9 := Lib.hid (show T.has E[m] = false → ¬ WfT T from fun h => Hno.out (Hnf.out _ hmem h))
          clear hmem
          generalize E[m] = x at *
          by_cases x0 : x < 0
          · have d0 : decide (x < 0) = true := by simp [x0]
            have Hno2 := Lib.hid (Hno9.out (by rw [Bool.eq_false_iff]; intro g; have := (has_iff.1 g).1; omega))
            clear x0
            go_wp2
            go_ret
            exact ⟨1, rfl, ⟨fun h => absurd h (by decide), fun h => absurd h Hno2.out⟩, Hb.out.step Hbt9.out⟩
          have d0 : decide (x < 0) = false := by simp; omega
          by_cases x1 : x < (T.nodes.length : Int)
          · have d1 : decide ((T.nodes.length : Int) ≤ x) = false := by simp; omega
            have Hnx3 := Lib.hid (Hnx9.out (has_iff.2 ⟨by omega, x1⟩))
            clear x0 x1
            go_wp2
            exact ⟨⟨m + 1, by go_num, by omega, Hnx3.out, Hb9.out⟩, by simp [intOf]; omega⟩
          · have d1 : decide ((T.nodes.length : Int) ≤ x) = true := by simp; omega
            have Hno2 := Lib.hid (Hno9.out (by rw [Bool.eq_false_iff]; intro g; have := (has_iff.1 g).2; unfold Ty.len at this; omega))
            clear x0 x1
            go_wp2
            go_ret
            exact ⟨1, rfl, ⟨fun h => absurd h (by decide), fun h => absurd h Hno2.out⟩, Hb.out.step Hbt9.out⟩
        · obtain rfl : m = E.length := by omega
          have Hnx2 := Lib.hid (Hnx.out (Hnt.out fun e he => by obtain ⟨j, hj, rfl⟩ := List.mem_iff_getElem.1 he; exact Hall9.out j hj hj))
          go_wp2
          exact ⟨⟨k + 1, by go_num, by omega, Hnx2.out, Hbt9.out⟩, by simp [intOf]; omega⟩
    · obtain rfl : k = T.nodes.length := by omega
      have Hwf := Lib.hid (wf_of Hroot.out fun i hi => Hall.out i hi hi)
      have HK := Lib.hid (kids_of fun i hi => Hall.out i hi hi)
      obtain ⟨t0, t1⟩ := cells2 ((Hbr.out.block _ hlA).trans HA.out)
      have Hc := Lib.hid (contractive_any T wr _ (HT.out.below Hbw.out) HK.out HS.out.len)
      by_cases hc : Ctr T
      · have hd : decide (Ctr T) = true := decide_eq_true hc
        have Hy := Lib.hid (Hwf.out.2 hc)
        rw [hd] at Hc
        clear hd hc
        go_wp2_with (go_at_call 54; refine Hc.out.mono ?_; rintro e w6 ⟨rfl, hb6⟩; have Hb6 := Lib.hid (Hbw.out.step hb6); clear hb6)
        go_ret
        exact ⟨0, rfl, ⟨fun _ => Hy.out, fun _ => rfl⟩, Hb6.out⟩
      · have hd : decide (Ctr T) = false := decide_eq_false hc
        have Hy := Lib.hid (show ¬ WfT T from fun g => hc (Hwf.out.1 g))
        rw [hd] at Hc
        clear hd hc
        go_wp2_with (go_at_call 54; refine Hc.out.mono ?_; rintro e w6 ⟨rfl, hb6⟩; have Hb6 := Lib.hid (Hbw.out.step hb6); clear hb6)
        go_ret
        exact ⟨3, rfl, ⟨fun h => absurd h (by decide), fun h => absurd h Hy.out⟩, Hb6.out⟩
end Go.Proofs.YtjgldaaofdpcgaaGreat
namespace Go.Proofs.YtjgldaaofdpcgaaGreat
inductive TagX : Bool → Prop
  | mk (b : Bool) : TagX b
end Go.Proofs.YtjgldaaofdpcgaaGreat
namespace Go.Proofs.YtjgldaaofdpcgaaGreat
open Go.RowKit Go.Ident
set_option maxRecDepth 100000
structure DX (w : World) (T : Ty) (bd bt : Nat) (g : Nat → Bool) : Prop where
  a : MB w bd T.nodes.length g
  t : BT (wo bd w) bt T
theorem DX.turn {w w' : World} {T : Ty} {bd bt : Nat} {g g' : Nat → Bool} (h : DX w T bd bt g) (hb : Below w.heap.size (wo bd w) (wo bd w')) (ha : MB w' bd T.nodes.length g') : DX w' T bd bt g' :=
  ⟨ha, h.t.below (by rw [wo_size]; exact hb)⟩
theorem DX.below {w w' : World} {T : Ty} {bd bt : Nat} {g : Nat → Bool} (h : DX w T bd bt g) (hb : Below w.heap.size w w') : DX w' T bd bt g := h.turn (wo_below hb) (h.a.below hb)
theorem DX.node {w : World} {T : Ty} {bd bt : Nat} {g : Nat → Bool} (h : DX w T bd bt g) {i : Nat} (hi : i < T.nodes.length) :
    ∃ p c a o p1 c1 p2 c2, p = some ⟨a, o, none⟩ ∧ w.heap[bt]? = some (.cells #[.slice p T.nodes.length c, .int .i64 T.root] 31) ∧
      w.rangeAt a (o + i * 8) [.int .i64 T.nodes[i].kind, .int .i64 T.nodes[i].lo, .int .i64 T.nodes[i].hi, .string T.nodes[i].text, .slice p1 T.nodes[i].kids.length c1, .slice p2 T.nodes[i].fields.length c2, .int .i64 T.nodes[i].rest0, .int .i64 T.nodes[i].rest1] ∧
      NC (wo bd w) T.nodes[i] [.int .i64 T.nodes[i].kind, .int .i64 T.nodes[i].lo, .int .i64 T.nodes[i].hi, .string T.nodes[i].text, .slice p1 T.nodes[i].kids.length c1, .slice p2 T.nodes[i].fields.length c2, .int .i64 T.nodes[i].rest0, .int .i64 T.nodes[i].rest1] ∧
      IS (wo bd w) (.slice p1 T.nodes[i].kids.length c1) T.nodes[i].kids ∧ T.nodes[i].kids.length ≤ 9223372036854775807 := by
  obtain ⟨s0, s1, h1, p, c, e, h2, h3⟩ := h.t
  obtain ⟨hn, h4⟩ := wo_ne h1 (by simp)
  injection e with e
  simp at e
  obtain ⟨rfl, rfl⟩ := e
  obtain ⟨a, o, cs, hp, -, -, hr, hN⟩ := h2.at hi
  have hN' := hN
  obtain ⟨p1, c1, p2, c2, rfl, h5, -⟩ := hN
  exact ⟨p, c, a, o, p1, c1, p2, c2, hp, h4, fun j v hv => wo_cell (hr j v hv), hN', h5, h3 _ (List.getElem_mem hi)⟩
end Go.Proofs.YtjgldaaofdpcgaaGreat
