/-
  Walks: slices of names; BinarySearch.
-/
import Derived.Test.YtejiagmfinhjbaaNi
import Derived.Test.YtejiagmfinhjbaaNj
import Derived.Test.YtejiagmfinhjbaaShp
import Derived.Test.YtejiagmfinhjbaaInv
import Derived.Shelf.Spec.SearchS
namespace Go.Proofs.Ytejiagmfinhjbaa
open Go.RowKit Go.Ident Go.Names

def toB (l : Nm) : ByteArray := ⟨l.toArray⟩
theorem toB_list (l : Nm) : (toB l).data.toList = l := rfl
theorem toB_toList (l : Nm) : (toB l).toList = l := (list_eq _).symm.trans rfl
theorem bys_toB (L : List Nm) : bys (L.map toB) = L := by
  unfold bys; rw [List.map_map]; exact List.map_id'' (fun _ => rfl) L
theorem toB_inj (s : ByteArray) : toB s.data.toList = s := rfl
/-- The cells of a slice are the strings of L. -/
structure SL (w : World) (p : Option Addr) (L : List Nm) : Prop where
  cell : ∀ i (h : i < L.length), ∃ a o, p = some ⟨a, o, none⟩ ∧ a < w.heap.size ∧ w.cell? ⟨a, o + i, none⟩ = some (.string (toB L[i]))
  size : ∀ x ∈ L, x.length ≤ maxLen
theorem SL.nil (w : World) (p : Option Addr) : SL w p [] := ⟨fun i h => absurd h (by simp), fun x h => absurd h (by simp)⟩
theorem SL.strs {w : World} {p : Option Addr} {L : List Nm} (h : SL w p L) : Strs w p (L.map toB) := by
  refine ⟨fun i hi => ?_, fun i hi => ?_⟩
  · obtain ⟨a, o, h1, h2, h3⟩ := h.cell i (by simpa using hi)
    exact ⟨a, o, h1, h2, by rw [List.getElem_map]; exact h3⟩
  · rw [List.getElem_map]
    have := h.size (L[i]'(by simpa using hi)) (List.getElem_mem _)
    show (L[i]'(by simpa using hi)).toArray.size ≤ maxLen
    simpa using this
theorem SL.of_strs {w : World} {p : Option Addr} {ss : List ByteArray} (h : Strs w p ss) : SL w p (bys ss) := by
  have hl : (bys ss).length = ss.length := by simp [bys]
  refine ⟨fun i hi => ?_, fun x hx => ?_⟩
  · obtain ⟨a, o, h1, h2, h3⟩ := h.cell i (by omega)
    refine ⟨a, o, h1, h2, ?_⟩
    have : (bys ss)[i] = (ss[i]'(by omega)).data.toList := by simp [bys]
    rw [this]; exact h3
  · obtain ⟨s, hs, rfl⟩ := List.mem_map.1 hx
    obtain ⟨i, hi, rfl⟩ := List.getElem_of_mem hs
    have := h.size i hi
    rw [list_size]; exact this
theorem SL.below {w wr : World} {p : Option Addr} {L : List Nm} (h : SL w p L) (hb : Below w.heap.size w wr) : SL wr p L := by
  refine ⟨fun i hi => ?_, h.size⟩
  obtain ⟨a, o, h1, h2, h3⟩ := h.cell i hi
  exact ⟨a, o, h1, Nat.lt_of_lt_of_le h2 hb.size, (hb.cell h2).trans h3⟩
theorem SL.take {w : World} {p : Option Addr} {L : List Nm} (h : SL w p L) (n : Nat) : SL w p (L.take n) := by
  refine ⟨fun i hi => ?_, fun x hx => h.size x (List.mem_of_mem_take hx)⟩
  obtain ⟨a, o, h1, h2, h3⟩ := h.cell i (by simp at hi; omega)
  exact ⟨a, o, h1, h2, by rw [List.getElem_take]; exact h3⟩

theorem bl_iff (a : Nm) : ∀ b, Op.bytesLess a b = true ↔ a < b := by
  induction a with
  | nil => intro b; cases b <;> simp [Op.bytesLess]
  | cons x r ih =>
    intro b
    cases b with
    | nil => simp [Op.bytesLess]
    | cons y q =>
      simp only [Op.bytesLess, Bool.or_eq_true, Bool.and_eq_true, decide_eq_true_eq, beq_iff_eq]
      rw [List.cons_lt_cons_iff, ih]
theorem bl_dec (a b : Nm) : Op.bytesLess a b = decide (a < b) := by
  cases h : Op.bytesLess a b with
  | true => rw [eq_comm, decide_eq_true_eq]; exact (bl_iff a b).1 h
  | false => rw [eq_comm, decide_eq_false_iff_not]; intro h2; rw [(bl_iff a b).2 h2] at h; cases h

set_option maxRecDepth 100000 in
theorem isNaN_any (a : ByteArray) (w : World) : Calls Try.prog 78 #[.string a] w fun e w' => e = .returned (.bool false) ∧ w' = w := by
  go_enter Try.func78, Try.ntmps78
  go_wp2
  go_ret
  simp
set_option maxRecDepth 100000 in
theorem isNaN2_any (a : ByteArray) (w : World) : Calls Try.prog 60 #[.string a] w fun e w' => e = .returned (.bool false) ∧ w' = w := by
  go_enter Try.func60, Try.ntmps60
  go_wp2
  go_ret
  simp
set_option maxRecDepth 100000 in
theorem less_any (a b : Nm) (w : World) : Calls Try.prog 59 #[.string (toB a), .string (toB b)] w fun e w' => e = .returned (.bool (decide (a < b))) ∧ w' = w := by
  have hb := bl_dec a b
  have e1 := toB_toList a
  have e2 := toB_toList b
  generalize toB a = x at *
  generalize toB b = y at *
  rw [← hb, ← e1, ← e2]
  clear hb e1 e2
  go_enter Try.func59, Try.ntmps59
  go_wp2_with (first
    | (go_at_call 78; refine (isNaN_any _ _).mono ?_; rintro e w1 ⟨rfl, rfl⟩))
  go_ret
  exact ⟨rfl, rfl⟩
def lays26_ren : Go.Shelf.Ren := ⟨fun | 26 => 46 | 33 => 59 | 34 => 60 | 38 => 78 | n => n, fun | 24 => 22 | 40 => 70 | n => n, fun | n => n⟩
theorem lays26 : Go.Proofs.Lays2.n26 Try.prog lays26_ren := {
  mixed := by kernel_rfl
  f26 := Try.func46.trans (congrArg some (by kernel_rfl))
  f33 := Try.func59.trans (congrArg some (by kernel_rfl))
  f34 := Try.func60.trans (congrArg some (by kernel_rfl))
  f38 := Try.func78.trans (congrArg some (by kernel_rfl))
  t0 := Try.underlying0
  a0 := Try.isAgg0
  z0 := Try.sizeOf0
  v0 := Try.zeroValue0
  t3 := Try.underlying3
  a3 := Try.isAgg3
  z3 := Try.sizeOf3
  v3 := Try.zeroValue3
  t4 := Try.underlying4
  a4 := Try.isAgg4
  z4 := Try.sizeOf4
  v4 := Try.zeroValue4
  t9 := Try.underlying9
  a9 := Try.isAgg9
  z9 := Try.sizeOf9
  v9 := Try.zeroValue9
  t24 := Try.underlying22
  a24 := Try.isAgg22
  z24 := Try.sizeOf22
  v24 := Try.zeroValue22
  t40 := Try.underlying70
  a40 := Try.isAgg70
  z40 := Try.sizeOf70
  v40 := Try.zeroValue70 }
theorem getD_get {L : List Nm} {i : Nat} (h : i < L.length) : L.getD i [] = L[i] := by rw [List.getD_eq_getElem?_getD, List.getElem?_eq_getElem h]; rfl
theorem bsGo_le (less : Nat → Bool) : ∀ f lo hi, lo ≤ hi → lo ≤ Lib.bsGo less f lo hi ∧ Lib.bsGo less f lo hi ≤ hi
  | 0, lo, hi, h => ⟨Nat.le_refl _, h⟩
  | f + 1, lo, hi, h => by
    unfold Lib.bsGo
    by_cases hl : lo < hi
    · rw [if_pos hl]
      cases less ((lo + hi) / 2)
      · have := bsGo_le less f lo ((lo + hi) / 2) (by omega)
        simp only [Bool.false_eq_true, if_false]; omega
      · have := bsGo_le less f ((lo + hi) / 2 + 1) hi (by omega)
        simp only [if_true]; omega
    · rw [if_neg hl]; exact ⟨Nat.le_refl _, h⟩
theorem bsGo_found (L : List Nm) (x : Nm) (hA : Asc L) : ∀ f lo hi, lo ≤ hi → hi ≤ L.length → hi - lo ≤ f →
    (∀ k (h : k < L.length), k < lo → L[k] < x) → (∀ k (h : k < L.length), hi ≤ k → ¬ L[k] < x) →
    (decide (Lib.bsGo (fun t => decide (L.getD t [] < x)) f lo hi < L.length ∧ L.getD (Lib.bsGo (fun t => decide (L.getD t [] < x)) f lo hi) [] = x) = decide (x ∈ L)) := by
  have hp : ∀ i j (hi : i < L.length) (hj : j < L.length), i < j → L[i] < L[j] := by
    unfold Asc at hA; rw [List.pairwise_iff_getElem] at hA; exact hA
  have hend : ∀ i, (∀ k (h : k < L.length), k < i → L[k] < x) → (∀ k (h : k < L.length), i ≤ k → ¬ L[k] < x) → (decide (i < L.length ∧ L.getD i [] = x) = decide (x ∈ L)) := by
    intro i h1 h2
    rw [decide_eq_decide]
    constructor
    · rintro ⟨h, rfl⟩
      rw [getD_get h]; exact List.getElem_mem h
    · intro hx
      obtain ⟨k, hk, rfl⟩ := List.getElem_of_mem hx
      have h3 : ¬ k < i := fun h4 => lt_irr _ (h1 k hk h4)
      have hi : i < L.length := by omega
      by_cases hki : k = i
      · subst hki; exact ⟨hi, getD_get hi⟩
      · exact absurd (hp i k hi hk (by omega)) (h2 i hi (Nat.le_refl _))
  intro f
  induction f with
  | zero =>
    intro lo hi h1 h2 h3 h4 h5
    have : lo = hi := by omega
    subst this
    exact hend lo h4 h5
  | succ f ih =>
    intro lo hi h1 h2 h3 h4 h5
    unfold Lib.bsGo
    by_cases hl : lo < hi
    · simp only [if_pos hl]
      have hm : (lo + hi) / 2 < L.length := by omega
      have hg : L.getD ((lo + hi) / 2) [] = L[(lo + hi) / 2] := getD_get hm
      cases hd : decide (L.getD ((lo + hi) / 2) [] < x) with
      | true =>
        simp only [if_true]
        have hd' : L[(lo + hi) / 2] < x := by rw [← hg]; simpa using hd
        refine ih _ _ (by omega) h2 (by omega) (fun k hk hk2 => ?_) h5
        by_cases hkm : k = (lo + hi) / 2
        · subst hkm; exact hd'
        · exact lt_tr (hp k _ hk hm (by omega)) hd'
      | false =>
        simp only [Bool.false_eq_true, if_false]
        have hd' : ¬ L[(lo + hi) / 2] < x := by rw [← hg]; simpa using hd
        refine ih _ _ (by omega) (by omega) (by omega) h4 (fun k hk hk2 => ?_)
        by_cases hkm : k = (lo + hi) / 2
        · subst hkm; exact hd'
        · intro h; exact hd' (lt_tr (hp _ k hm hk (by omega)) h)
    · simp only [if_neg hl]
      have : lo = hi := by omega
      subst this
      exact hend lo h4 h5
theorem toB_eq (a b : Nm) : toB a = toB b ↔ a = b := ⟨fun h => by have := congrArg (fun t : ByteArray => t.data.toList) h; exact this, fun h => h ▸ rfl⟩
theorem search_any (p : Option Addr) (cap : Nat) (L : List Nm) (x : Nm) (hA : Asc L) (hl : L.length ≤ 1000000) (w : World) (hS : SL w p L) :
    Calls Try.prog 46 #[.slice p L.length cap, .string (toB x)] w fun e w' => (∃ i : Nat, e = .returned (.tuple #[.int .i64 i, .bool (decide (x ∈ L))])) ∧ Below w.heap.size w w' := by
  by_cases hn : L = []
  · subst hn
    refine (Any2.slices_BinarySearch_string_empty lays26 p cap (toB x) w).mono ?_
    rintro e w1 ⟨rfl, rfl⟩
    exact ⟨⟨0, rfl⟩, Below.refl _ w1⟩
  · have hpos : 0 < L.length := List.length_pos_iff.2 hn
    obtain ⟨a, o, rfl, ha, _⟩ := hS.cell 0 hpos
    refine (Any2.slices_BinarySearch_string lays26 a o L.length cap (fun t => toB (L.getD t [])) (toB x) w (by omega) (fun j hj => ?_)).mono ?_
    · obtain ⟨a', o', h1, h2, h3⟩ := hS.cell j hj
      cases h1
      rw [h3]
      show _ = some (Value.string (toB (L.getD j [])))
      rw [getD_get hj]
    · rintro e w1 ⟨rfl, q, rfl⟩
      refine ⟨⟨Lib.bsGo (fun t => decide (L.getD t [] < x)) L.length 0 L.length, ?_⟩, (Below.refl _ w).trans ⟨rfl, rfl, rfl, Nat.le_refl _, fun _ _ => rfl⟩⟩
      have hf : (fun t => Op.bytesLess (toB (L.getD t [])).toList (toB x).toList) = fun t => decide (L.getD t [] < x) := by
        funext t; rw [toB_toList, toB_toList, bl_dec]
      have := bsGo_found L x hA L.length 0 L.length (by omega) (Nat.le_refl _) (by omega) (fun k _ h => by omega) (fun k h h2 => by omega)
      rw [hf, ← this]
      simp only [toB_eq]
end Go.Proofs.Ytejiagmfinhjbaa
