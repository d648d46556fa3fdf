/-
  Walks: what Recursive calls: its closure, ContainsFunc.
-/
import Derived.Test.YteejlibiidiibaaE3
import Derived.Maps.RangeWalk
namespace Go.Proofs.Yteejlibiidiibaa
open Go.RowKit
set_option maxRecDepth 100000
abbrev MD := DataW Unit
theorem law3 : Maps.Keyed Try.prog 3 := Maps.int_keyed (q := .i64) (by kernel_rfl)
def wfI (x : Int) : Prop := (Lit.int .i64 x).wf = true
theorem key3 {x : Int} (h : wfI x) : keyOf Try.prog 3 (.int .i64 x) = some (.int .i64 x) := Maps.keyOf_int_mk (q := .i64) (by kernel_rfl) h
/-- The map's datum has the marks of f. -/
def MF (D : MD) (f : Int → Option Bool) : Prop := ∀ x, wfI x → ∀ zd, D.atKey (.int .i64 x) zd = match f x with | some c => .lit (.bool c) | none => zd
theorem MF.has {D : MD} {f : Int → Option Bool} (h : MF D f) {x : Int} (hx : wfI x) : Maps.has D (.int .i64 x) = (f x).isSome := by
  have h1 := h x hx
  cases hf : f x with
  | none => rw [hf] at h1; exact Maps.has_false_of_atKey h1
  | some c => rw [hf] at h1; exact Maps.has_true_of_atKey h1
theorem zero4 (w : World) : (zeroValue 4).run Try.prog w = .ok (.bool false) w := by kernel_rfl
theorem und4 : Try.prog.underlying 4 = some .bool := by kernel_rfl
theorem und52 : Try.prog.underlying 52 = some (.map 3 4) := by kernel_rfl
theorem plainElem_bool_inv {v : Value} {z : MD × List MemPlace} (h : plainElem Try.prog 4 v = some z) : ∃ c, v = .bool c ∧ z = (.lit (.bool c), []) := by
  unfold plainElem at h
  rw [und4] at h
  cases v <;> simp at h
  exact ⟨_, rfl, h.symm⟩
/-- The block of the variable 'in', and its map. -/
structure MM (h cnt : Nat) (f : Int → Option Bool) (w : World) : Prop where
  var : w.heap[h + 1]? = some (.cells #[.map (some h)] 52)
  ex : ∃ D : MD, w.ownsMap Try.prog 3 (plainElem Try.prog 4) h cnt D ∧ MF D f
theorem MM.look {h cnt : Nat} {f : Int → Option Bool} {w : World} (H : MM h cnt f w) {x : Int} (hx : wfI x) : (Instr.lookup 52 (.map (some h)) (.int .i64 x) false).run Try.prog w = .ok (.bool ((f x).getD false)) w := by
  obtain ⟨D, h1, h2⟩ := H.ex
  obtain ⟨v, ps, h3, h4⟩ := h1.lookup law3 und52 (zero4 w) (plainElem_bool und4 false) (key3 hx)
  obtain ⟨c, rfl, h5⟩ := plainElem_bool_inv h4
  rw [h2 x hx] at h5
  rw [h3]
  simp only [Prod.mk.injEq] at h5
  cases hf : f x with
  | none => rw [hf] at h5; have := h5.1; simp at this; simp [this]
  | some d => rw [hf] at h5; have := h5.1; simp at this; simp [this]
theorem rec1_any (h cnt : Nat) (f : Int → Option Bool) (w : World) (H : MM h cnt f w) (x : Int) (hx : wfI x) : Calls Try.prog 34 #[.int .i64 x, .pointer (some ⟨h + 1, 0, none⟩)] w fun e w' => e = .returned (.bool ((f x).getD false)) ∧ w = w' := by
  have hl := H.look hx
  have z := one_cell H.var
  have hH := Lib.hid H; clear H
  go_enter Try.func34, Try.ntmps34
  go_wp2
  go_ret
  exact ⟨rfl, rfl⟩
theorem any_take_succ {α : Type} {p : α → Bool} {L : List α} {k : Nat} (h : k < L.length) : (L.take (k + 1)).any p = ((L.take k).any p || p L[k]) := by
  rw [List.take_succ_eq_append_getElem h, List.any_append]; simp
theorem any_of_take {α : Type} {p : α → Bool} {L : List α} {k : Nat} (h : (L.take k).any p = true) : L.any p = true := by
  rw [List.any_eq_true] at h ⊢
  obtain ⟨x, hx, hp⟩ := h
  exact ⟨x, List.mem_of_mem_take hx, hp⟩
/-- What IndexFunc answers: a number that is not negative exactly if it has found one. -/
def XR (b : Bool) (w : World) (e : Ending) (w' : World) : Prop := (∃ i : Int, e = .returned (.int .i64 i) ∧ decide (0 ≤ i) = b) ∧ w = w'
set_option maxHeartbeats 4000000 in
theorem indexf_any (h cnt : Nat) (f : Int → Option Bool) (w : World) (H : MM h cnt f w) (v : Value) (L : List Int) (hv : IS w v L) (hL : L.length ≤ 100000) (hw : ∀ x ∈ L, wfI x) :
    Calls Try.prog 40 #[v, .func (.func 34) #[] #[.pointer (some ⟨h + 1, 0, none⟩)]] w (XR (L.any fun x => (f x).getD false) w) := by
  obtain ⟨q, cq, rfl, hq, hrc⟩ := hv
  have Hrc := Lib.hid hrc; have HH := Lib.hid H; have Hw := Lib.hid hw
  clear hrc H hw
  go_enter Try.func40, Try.ntmps40
  go_wp2
  go_loop [8] (fun i => ∃ k : Nat, i = .int .i64 k ∧ k ≤ L.length ∧ (L.take k).any (fun x => (f x).getD false) = false) (fun i => L.length - (intOf i).toNat)
  case atStart => exact ⟨0, rfl, by omega, by simp⟩
  case round =>
    obtain ⟨k, rfl, hk, ha⟩ := hrel
    have Ha := Lib.hid ha; clear ha
    by_cases hlt : k < L.length
    · obtain ⟨a, o, rfl, hab, z0⟩ := Hrc.out.at hlt
      have hst := any_take_succ (p := fun x => (f x).getD false) hlt
      have hany : (L.take (k + 1)).any (fun x => (f x).getD false) = true → L.any (fun x => (f x).getD false) = true := any_of_take
      have hc := rec1_any h cnt f w HH.out L[k] (Hw.out _ (List.getElem_mem hlt))
      rw [Ha.out, Bool.false_or] at hst
      cases hx : (f L[k]).getD false with
      | true =>
        rw [hx] at hc hst
        have Hc := Lib.hid hc; have Hst := Lib.hid (hany hst)
        generalize L[k] = x at *
        clear hc hst hany hx
        go_wp2_with (go_at_call 34; refine Hc.out.mono ?_; rintro e w' ⟨rfl, rfl⟩)
        go_ret
        rw [Hst.out]
        exact ⟨⟨_, rfl, by simp⟩, rfl⟩
      | false =>
        rw [hx] at hc hst
        have Hc := Lib.hid hc; have Hst := Lib.hid hst
        generalize L[k] = x at *
        clear hc hst hany hx
        go_wp2_with (go_at_call 34; refine Hc.out.mono ?_; rintro e w' ⟨rfl, rfl⟩)
        exact ⟨⟨k + 1, by go_num, by omega, Hst.out⟩, by simp [intOf]; omega⟩
    · obtain rfl : k = L.length := by omega
      have Ha' := Lib.hid (show L.any (fun x => (f x).getD false) = false by have := Ha.out; rwa [List.take_length] at this)
      go_wp2
      go_ret
      rw [Ha'.out]
      exact ⟨⟨_, rfl, by simp⟩, rfl⟩
theorem contf_any (h cnt : Nat) (f : Int → Option Bool) (w : World) (H : MM h cnt f w) (v : Value) (L : List Int) (hv : IS w v L) (hL : L.length ≤ 100000) (hw : ∀ x ∈ L, wfI x) :
    Calls Try.prog 33 #[v, .func (.func 34) #[] #[.pointer (some ⟨h + 1, 0, none⟩)]] w fun e w' => e = .returned (.bool (L.any fun x => (f x).getD false)) ∧ w = w' := by
  have hc := indexf_any h cnt f w H v L hv hL hw
  obtain ⟨q, cq, rfl, hq, hrc⟩ := hv
  have Hc := Lib.hid hc
  generalize (L.any fun x => (f x).getD false) = b at *
  clear hc hrc H hw
  go_enter Try.func33, Try.ntmps33
  go_wp2_with (go_at_call 40; refine Hc.out.mono ?_; rintro e w' ⟨⟨i, rfl, hi⟩, rfl⟩)
  go_ret
  rw [← hi]
  exact ⟨rfl, rfl⟩
end Go.Proofs.Yteejlibiidiibaa
