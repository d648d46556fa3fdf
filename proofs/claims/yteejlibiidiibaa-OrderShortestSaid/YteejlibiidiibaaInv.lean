/-
  Regions that draw their order: an invariant over the set of the operations that are done. Each operation is walked once, from any state in which it may come up.
-/
import Derived.Test.YteejlibiidiibaaLexK
namespace Go.Inv
open Go Go.Lex Go.LexK

/-- Every edge leads back in the text. -/
def backward (ops : Array Oper) : Bool := (List.range ops.size).all fun i => ((ops[i]?).map fun o => o.after.all fun e => decide (e.on < i)).getD true

section
variable {P : Program} {ops : Array Oper} {Q : Exit → Act → World → Prop}
theorem ready_of {listed : Array Bool} {i : Nat} {o : Oper} (ho : ops[i]? = some o) (h1 : listed.getD i true = false) (h2 : ∀ e ∈ o.after.toList, Region.binds .any e = true → listed.getD e.on false = true) : i ∈ Region.ready .any ops listed := by
  unfold Region.ready
  rw [List.mem_filter]
  refine ⟨by rw [List.mem_range]; exact (Array.getElem?_eq_some_iff.1 ho).1, ?_⟩
  rw [h1, ho]
  simp only [Bool.not_false, Bool.true_and, Option.map_some, Option.getD_some]
  rw [Array.all_eq_true_iff_forall_mem]
  intro e he
  cases hb : Region.binds .any e with
  | false => rfl
  | true => simpa using h2 e (by simpa using he) hb
theorem of_ready {listed : Array Bool} {i : Nat} (h : i ∈ Region.ready .any ops listed) : ∃ o, ops[i]? = some o ∧ listed.getD i true = false ∧ ∀ e ∈ o.after.toList, Region.binds .any e = true → listed.getD e.on false = true := by
  unfold Region.ready at h
  rw [List.mem_filter] at h
  obtain ⟨h1, h2⟩ := h
  have hlt : i < ops.size := List.mem_range.1 h1
  have ho : ops[i]? = some ops[i] := Array.getElem?_eq_getElem hlt
  rw [ho] at h2
  simp only [Option.map_some, Option.getD_some, Bool.and_eq_true, Bool.not_eq_true'] at h2
  refine ⟨_, ho, h2.1, fun e he hb => ?_⟩
  have h3 := h2.2
  rw [Array.all_eq_true_iff_forall_mem] at h3
  have := h3 e (by simpa using he)
  rw [hb] at this
  simpa using this
theorem ready_nil {listed : Array Bool} (hb : backward ops = true) (h : Region.ready .any ops listed = []) (hs : listed.size = ops.size) : ∀ i, i < ops.size → listed.getD i false = true := by
  intro i
  induction i using Nat.strongRecOn with
  | _ i ih =>
    intro hi
    have ho : ops[i]? = some ops[i] := Array.getElem?_eq_getElem hi
    cases hl : listed.getD i false with
    | true => rfl
    | false =>
      exfalso
      have hl2 : listed.getD i true = false := by
        have : i < listed.size := by omega
        simp [this] at hl ⊢
        exact hl
      have hback : ∀ e ∈ (ops[i]).after.toList, e.on < i := by
        unfold backward at hb
        rw [List.all_eq_true] at hb
        have := hb i (List.mem_range.2 hi)
        rw [ho] at this
        simp only [Option.map_some, Option.getD_some] at this
        rw [Array.all_eq_true_iff_forall_mem] at this
        intro e he
        simpa using this e (by simpa using he)
      have := ready_of ho hl2 (fun e he _ => ih e.on (hback e he) (by have := hback e he; omega))
      rw [h] at this
      cases this
theorem count_next {listed : Array Bool} {i n : Nat} (hi : listed.getD i true = false) (hn : listed.toList.count false ≤ n + 1) (hs : i < listed.size) : (listed.setIfInBounds i true).toList.count false ≤ n := by
  rw [Array.toList_setIfInBounds, List.count_set (by simpa using hs)]
  have h1 : listed.toList[i]'(by simpa using hs) = false := by
    simp [hs] at hi
    simpa using hi
  rw [h1, if_pos (show (false == false) = true from rfl), if_neg (show ¬ (true == false) = true by decide)]
  omega
theorem wpAny_inv (hb : backward ops = true) (I : Array Bool → Act → World → Prop)
    (hstep : ∀ listed a w i, listed.size = ops.size → i ∈ Region.ready .any ops listed → I listed a w → wpOp P ops Q i (fun a' w' => I (listed.setIfInBounds i true) a' w') a w)
    (hend : ∀ listed a w, (∀ i, i < ops.size → listed.getD i false = true) → I listed a w → Q .normal a w) :
    ∀ (fuel : Nat) (listed : Array Bool) (a : Act) (w : World), listed.size = ops.size → listed.toList.count false ≤ fuel → I listed a w → wpAny P .any ops Q fuel listed a w := by
  intro fuel
  induction fuel with
  | zero =>
    intro listed a w hs hc hI
    have hall : ∀ i, i < listed.size → listed.getD i true = true := by
      intro i hi
      cases h : listed.getD i true with
      | true => rfl
      | false =>
        exfalso
        have : false ∈ listed.toList := by
          simp [hi] at h
          rw [← h]; simp
        have := List.count_pos_iff.2 this
        omega
    have hnil : Region.ready .any ops listed = [] := by
      rw [List.eq_nil_iff_forall_not_mem]
      intro i hi
      obtain ⟨o, ho, h1, _⟩ := of_ready hi
      rw [hall i (by rw [hs]; exact (Array.getElem?_eq_some_iff.1 ho).1)] at h1
      cases h1
    exact ⟨hnil, hend listed a w (ready_nil hb hnil hs) hI⟩
  | succ fuel ih =>
    intro listed a w hs hc hI
    refine ⟨fun hnil => hend listed a w (ready_nil hb hnil hs) hI, fun i hi => ?_⟩
    refine wpOp_mono (fun a' w' h => ?_) (hstep listed a w i hs hi hI)
    obtain ⟨o, ho, h1, _⟩ := of_ready hi
    exact ih _ a' w' (by simpa using hs) (count_next h1 hc (by rw [hs]; exact (Array.getElem?_eq_some_iff.1 ho).1)) h
theorem done_set {listed : Array Bool} {i : Nat} (hi : i < listed.size) : (fun j => (listed.setIfInBounds i true).getD j false = true) = (fun j => listed.getD j false = true ∨ j = i) := by
  funext j
  apply propext
  by_cases hj : j = i
  · subst hj; simp [hi]
  · have : i ≠ j := fun h => hj h.symm
    simp [hj, Array.getElem?_setIfInBounds, this]
end
/-- ████ An invariant over the set D of the operations that are done. -/
theorem wp_region_inv {P : Program} {Q : Exit → Act → World → Prop} (J : (Nat → Prop) → Act → World → Prop) {id : Nat} {a : Act} {w : World} {l : List Oper} (hm : P.follows .mixedOrders = true) (hb : backward l.toArray = true)
    (h0 : J (fun _ => False) a w.drew)
    (hstep : ∀ (i : Nat) (o : Oper), l[i]? = some o → ∀ (D : Nat → Prop) (a : Act) (w : World), ¬ D i → (∀ e ∈ o.after.toList, Region.binds .any e = true → D e.on) → J D a w →
      wpList P l.toArray (Exit.then (fun a' w' => J (fun j => D j ∨ j = i) a' w') (fun _ _ _ => False)) [o] a w)
    (hend : ∀ (D : Nat → Prop) (a : Act) (w : World), (∀ i, i < l.length → D i) → J D a w → Q .normal a w) : (Code.region id l.toArray true).wp P Q a w := by
  refine wp_region_any hm (wpAny_inv hb (fun listed a w => J (fun j => listed.getD j false = true) a w) ?_ ?_ _ _ a _ (by simp) (by simp) ?_)
  · intro listed a w i hs hi hJ
    obtain ⟨o, ho, h1, h2⟩ := of_ready hi
    have hlt : i < listed.size := by rw [hs]; exact (Array.getElem?_eq_some_iff.1 ho).1
    rw [done_set hlt]
    have hn : ¬ listed.getD i false = true := by simp [hlt] at h1 ⊢; exact h1
    have := hstep i o (by simpa using ho) _ a w hn h2 hJ
    have hst : wpOp P l.toArray (Exit.then (fun a' w' => J (fun j => listed.getD j false = true ∨ j = i) a' w') (fun _ _ _ => False)) i (fun a' w' => J (fun j => listed.getD j false = true ∨ j = i) a' w') a w := by
      unfold wpOp
      simp only [ho]
      exact this
    exact wpOp_shutQ shut_then hst
  · intro listed a w hall hJ
    exact hend _ a w (fun i hi => hall i (by simpa using hi)) hJ
  · have : (fun j => (Array.replicate l.toArray.size false).getD j false = true) = (fun _ => False) := by
      funext j; apply propext; constructor
      · intro h; simp [Array.getElem?_replicate] at h; split at h <;> simp at h
      · intro h; exact h.elim
    rw [this]
    exact h0
end Go.Inv
