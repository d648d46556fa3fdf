/-
  The plain laws of sets: union, intersection, subsets.
-/
import Derived.Test.YtejiagmfinhjbaaNy
namespace Go.Proofs.Ytejiagmfinhjbaa
open Go.Names

theorem has_not (c : Bool) (l : List Nm) (x : Nm) : has (!c) l x = !has c l x := by unfold has; cases c <;> simp
theorem has_nrm (c : Bool) (l : List Nm) (x : Nm) : has c (nrm l) x = has c l x := by unfold has; rw [show decide (x ∈ nrm l) = decide (x ∈ l) by rw [decide_eq_decide]; exact nrm_mem l x]
theorem mem_has (c : Bool) (l : List Nm) (x : Nm) : decide (x ∈ l) = (has c l x != c) := by unfold has; cases c <;> simp
theorem unionL_mem (c1 : Bool) (l1 : List Nm) (c2 : Bool) (l2 : List Nm) (x : Nm) : decide (x ∈ unionL c1 l1 c2 l2) = ((has c1 l1 x || has c2 l2 x) != (c1 || c2)) := by
  unfold unionL fl
  cases hp : ((has c1 l1 x || has c2 l2 x) != (c1 || c2)) with
  | true =>
    rw [decide_eq_true_iff, List.mem_filter]
    refine ⟨?_, hp⟩
    rw [List.mem_append]
    apply Classical.byContradiction
    intro hn
    rw [not_or] at hn
    unfold has at hp
    simp [hn.1, hn.2] at hp
  | false =>
    rw [decide_eq_false_iff_not, List.mem_filter]
    rintro ⟨_, h⟩
    have h : ((has c1 l1 x || has c2 l2 x) != (c1 || c2)) = true := h
    rw [hp] at h; cases h
theorem nrm_eq_iff (l m : List Nm) : nrm l = nrm m ↔ ∀ x, decide (x ∈ l) = decide (x ∈ m) := by
  constructor
  · intro h x
    rw [decide_eq_decide, ← nrm_mem l x, h, nrm_mem]
  · intro h
    exact nrm_congr fun x => by rw [← decide_eq_decide]; exact h x
theorem nrm_empty (l : List Nm) : (nrm l).length = 0 ↔ ∀ x, decide (x ∈ l) = false := by
  rw [List.length_eq_zero_iff]
  constructor
  · intro h x
    rw [decide_eq_false_iff_not, ← nrm_mem, h]
    simp
  · intro h
    cases hn : nrm l with
    | nil => rfl
    | cons a r =>
      have := h a
      rw [decide_eq_false_iff_not, ← nrm_mem, hn] at this
      exact absurd (by simp) this
/-- What the union of two sets is. -/
def uniL (c1 : Bool) (L1 : List Nm) (c2 : Bool) (L2 : List Nm) : List Nm := nrm (nrm (interL (!c1) (nrm L1) (!c2) (nrm L2)))
theorem uniL_mem (c1 : Bool) (L1 : List Nm) (c2 : Bool) (L2 : List Nm) (x : Nm) : decide (x ∈ uniL c1 L1 c2 L2) = ((has c1 L1 x || has c2 L2 x) != (c1 || c2)) := by
  unfold uniL
  rw [show decide (x ∈ nrm (nrm (interL (!c1) (nrm L1) (!c2) (nrm L2)))) = decide (x ∈ interL (!c1) (nrm L1) (!c2) (nrm L2)) by rw [decide_eq_decide, nrm_mem, nrm_mem], interL_mem, has_not, has_not, has_nrm, has_nrm]
  cases c1 <;> cases c2 <;> cases has _ L1 x <;> cases has _ L2 x <;> rfl
theorem uniL_nrm (c1 : Bool) (L1 : List Nm) (c2 : Bool) (L2 : List Nm) : nrm (uniL c1 L1 c2 L2) = uniL c1 L1 c2 L2 := nrm_nrm _
theorem cU (c1 c2 : Bool) : (!(and (!c1) (!c2))) = (c1 || c2) := by cases c1 <;> cases c2 <;> rfl
/-- A set lies in another one. -/
def isSub (c1 : Bool) (L1 : List Nm) (c2 : Bool) (L2 : List Nm) : Bool := !(c1 && !c2) && decide ((nrm (interL c1 L1 (!c2) (nrm L2))).length = 0)
theorem isSub_iff (c1 : Bool) (L1 : List Nm) (c2 : Bool) (L2 : List Nm) : isSub c1 L1 c2 L2 = true ↔ (c1 && !c2) = false ∧ ∀ x, has c1 L1 x = true → has c2 L2 x = true := by
  unfold isSub
  simp only [Bool.and_eq_true, Bool.not_eq_true', decide_eq_true_eq]
  refine and_congr_right fun hc => ?_
  rw [nrm_empty]
  refine forall_congr' fun x => ?_
  rw [interL_mem, hc, has_not, has_nrm]
  cases has c1 L1 x <;> cases has c2 L2 x <;> simp
theorem refSub (c1 : Bool) (L1 : List Nm) (c2 : Bool) (L2 : List Nm) : (!(!(or (!c1) (!(!c2)))) && decide ((nrm (nrm (unionL (!c1) (nrm L1) (!(!c2)) (nrm (nrm L2))))).length = 0)) = isSub c1 L1 c2 L2 := by
  rw [Bool.eq_iff_iff, isSub_iff]
  simp only [Bool.and_eq_true, Bool.not_eq_true', decide_eq_true_eq]
  have h1 : (or (!c1) (!(!c2)) = false → False) ↔ (c1 && !c2) = false := by cases c1 <;> cases c2 <;> simp
  rw [nrm_nrm, nrm_empty]
  have h2 : (∀ x, decide (x ∈ unionL (!c1) (nrm L1) (!(!c2)) (nrm (nrm L2))) = false) ↔ ∀ x, ((!has c1 L1 x || has c2 L2 x) != (!c1 || c2)) = false := by
    refine forall_congr' fun x => ?_
    rw [unionL_mem, has_not, has_nrm, has_not, has_not, has_nrm, has_nrm, Bool.not_not, Bool.not_not]
  rw [h2]
  constructor
  · rintro ⟨h3, h4⟩
    have h5 : (c1 && !c2) = false := by revert h3; cases c1 <;> cases c2 <;> simp
    refine ⟨h5, fun x hx => ?_⟩
    have := h4 x
    revert this h5 hx
    cases c1 <;> cases c2 <;> cases has _ L1 x <;> cases has _ L2 x <;> simp
  · rintro ⟨h3, h4⟩
    refine ⟨by revert h3; cases c1 <;> cases c2 <;> simp, fun x => ?_⟩
    have := h4 x
    revert this h3
    cases c1 <;> cases c2 <;> cases has _ L1 x <;> cases has _ L2 x <;> simp
theorem sameSub (c1 : Bool) (L1 : List Nm) (c2 : Bool) (L2 : List Nm) : decide ((c1 || c2) = (c2 || c2) ∧ uniL c1 L1 c2 L2 = uniL c2 L2 c2 L2) = isSub c1 L1 c2 L2 := by
  rw [Bool.eq_iff_iff, isSub_iff, decide_eq_true_iff, ← uniL_nrm c1, ← uniL_nrm c2 L2 c2 L2, nrm_eq_iff]
  have h2 : (∀ x, decide (x ∈ uniL c1 L1 c2 L2) = decide (x ∈ uniL c2 L2 c2 L2)) ↔ ∀ x, ((has c1 L1 x || has c2 L2 x) != (c1 || c2)) = ((has c2 L2 x || has c2 L2 x) != (c2 || c2)) := by
    refine forall_congr' fun x => ?_
    rw [uniL_mem, uniL_mem]
  rw [h2]
  constructor
  · rintro ⟨h3, h4⟩
    refine ⟨by revert h3; cases c1 <;> cases c2 <;> simp, fun x hx => ?_⟩
    have := h4 x
    revert this h3 hx
    cases c1 <;> cases c2 <;> cases has _ L1 x <;> cases has _ L2 x <;> simp
  · rintro ⟨h3, h4⟩
    refine ⟨by revert h3; cases c1 <;> cases c2 <;> simp, fun x => ?_⟩
    have := h4 x
    revert this h3
    cases c1 <;> cases c2 <;> cases has _ L1 x <;> cases has _ L2 x <;> simp
/-- The reference's union and intersection. -/
theorem refUni (c1 : Bool) (L1 : List Nm) (c2 : Bool) (L2 : List Nm) : nrm (unionL c1 L1 c2 L2) = uniL c1 L1 c2 L2 := by
  rw [← uniL_nrm, nrm_eq_iff]
  intro x
  rw [uniL_mem, unionL_mem]
theorem refInt (c1 : Bool) (L1 : List Nm) (c2 : Bool) (L2 : List Nm) : nrm (nrm (unionL (!c1) (nrm L1) (!c2) (nrm L2))) = nrm (interL c1 L1 c2 L2) := by
  rw [nrm_nrm, nrm_eq_iff]
  intro x
  rw [unionL_mem, interL_mem, has_not, has_not, has_nrm, has_nrm]
  cases c1 <;> cases c2 <;> cases has _ L1 x <;> cases has _ L2 x <;> rfl
theorem cI (c1 c2 : Bool) : (!(or (!c1) (!c2))) = (c1 && c2) := by cases c1 <;> cases c2 <;> rfl
theorem has_uni (c1 : Bool) (L1 : List Nm) (c2 : Bool) (L2 : List Nm) (x : Nm) : has (c1 || c2) (uniL c1 L1 c2 L2) x = (has c1 L1 x || has c2 L2 x) := by
  have := uniL_mem c1 L1 c2 L2 x
  rw [mem_has (c1 || c2)] at this
  revert this
  cases has (c1 || c2) (uniL c1 L1 c2 L2) x <;> cases (has c1 L1 x || has c2 L2 x) <;> cases (c1 || c2) <;> simp
theorem has_int (c1 : Bool) (L1 : List Nm) (c2 : Bool) (L2 : List Nm) (x : Nm) : has (c1 && c2) (nrm (interL c1 L1 c2 L2)) x = (has c1 L1 x && has c2 L2 x) := by
  rw [has_nrm]
  have := interL_mem c1 L1 c2 L2 x
  rw [mem_has (c1 && c2)] at this
  revert this
  cases has (c1 && c2) (interL c1 L1 c2 L2) x <;> cases (has c1 L1 x && has c2 L2 x) <;> cases (c1 && c2) <;> simp
theorem asc_nrm (l : List Nm) : ascD (nrm l) = true := (ascD_iff _).2 (nrm_asc l)
theorem asc_uni (c1 : Bool) (L1 : List Nm) (c2 : Bool) (L2 : List Nm) : ascD (uniL c1 L1 c2 L2) = true := asc_nrm _
/-- De Morgan. -/
theorem morgan (c1 : Bool) (L1 : List Nm) (c2 : Bool) (L2 : List Nm) : nrm (uniL c1 L1 c2 L2) = nrm (interL (!c1) (nrm L1) (!c2) (nrm L2)) := by
  unfold uniL
  rw [nrm_nrm, nrm_nrm]
theorem uni_self (c : Bool) (L : List Nm) : uniL c L c L = nrm L := by
  rw [← uniL_nrm, nrm_eq_iff]
  intro x
  rw [uniL_mem, mem_has c]
  cases c <;> cases has _ L x <;> rfl
end Go.Proofs.Ytejiagmfinhjbaa
