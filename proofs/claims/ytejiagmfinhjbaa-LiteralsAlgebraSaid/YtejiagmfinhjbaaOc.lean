/-
  The contracts of the sets, in few words.
-/
import Derived.Test.YtejiagmfinhjbaaOb
namespace Go.Proofs.Ytejiagmfinhjbaa
open Go.RowKit Go.Ident Go.Names

/-- A set comes back. -/
def NB (w : World) (C : Bool) (M : List Nm) (e : Ending) (w' : World) : Prop := ∃ p k, e = .returned (.agg #[.bool C, .slice p M.length k]) ∧ SL w' p M ∧ Below w.heap.size w w'
theorem NA.nb {w w' : World} {C : Bool} {M : List Nm} {e : Ending} (h : NA w C M e w') : NB w C M e w' := by
  obtain ⟨p, k, h1, h2, _, h3⟩ := h
  exact ⟨p, k, h1, h2, h3⟩
theorem uni_len (c1 : Bool) (L1 : List Nm) (c2 : Bool) (L2 : List Nm) : (uniL c1 L1 c2 L2).length ≤ L1.length + L2.length := by
  unfold uniL
  rw [nrm_nrm]
  have h1 := nrm_len (interL (!c1) (nrm L1) (!c2) (nrm L2))
  have h2 := interL_len (!c1) (nrm L1) (!c2) (nrm L2)
  rw [nrm_nrm, nrm_nrm] at h2
  have h3 := nrm_len L1
  have h4 := nrm_len L2
  omega
theorem int_len (c1 : Bool) (L1 : List Nm) (c2 : Bool) (L2 : List Nm) : (nrm (interL c1 L1 c2 L2)).length ≤ L1.length + L2.length := by
  have h1 := nrm_len (interL c1 L1 c2 L2)
  have h2 := interL_len c1 L1 c2 L2
  have h3 := nrm_len L1
  have h4 := nrm_len L2
  omega
theorem uniB (c1 : Bool) (p1 : Option Addr) (k1 : Nat) (L1 : List Nm) (h1 : L1.length ≤ 1000) (c2 : Bool) (p2 : Option Addr) (k2 : Nat) (L2 : List Nm) (h2 : L2.length ≤ 1000) (w : World) (s1 : SL w p1 L1) (s2 : SL w p2 L2) :
    Calls Try.prog 11 #[.agg #[.bool c1, .slice p1 L1.length k1], .agg #[.bool c2, .slice p2 L2.length k2]] w (NB w (c1 || c2) (uniL c1 L1 c2 L2)) :=
  (union_any c1 p1 k1 L1 (by omega) c2 p2 k2 L2 (by omega) w s1 s2).mono fun e w' h => by rw [cU] at h; exact h.nb
theorem intB (c1 : Bool) (p1 : Option Addr) (k1 : Nat) (L1 : List Nm) (h1 : L1.length ≤ 1000) (c2 : Bool) (p2 : Option Addr) (k2 : Nat) (L2 : List Nm) (h2 : L2.length ≤ 1000) (w : World) (s1 : SL w p1 L1) (s2 : SL w p2 L2) :
    Calls Try.prog 13 #[.agg #[.bool c1, .slice p1 L1.length k1], .agg #[.bool c2, .slice p2 L2.length k2]] w (NB w (c1 && c2) (nrm (interL c1 L1 c2 L2))) :=
  (intersect_any c1 p1 k1 L1 (by omega) c2 p2 k2 L2 (by omega) w s1 s2).mono fun e w' h => h.nb
theorem comB (c : Bool) (p : Option Addr) (k : Nat) (L : List Nm) (h : L.length ≤ 1000) (w : World) (s : SL w p L) : Calls Try.prog 10 #[.agg #[.bool c, .slice p L.length k]] w (NB w (!c) (nrm L)) :=
  (complement_any c p k L (by omega) w s).mono fun e w' h => h.nb
theorem runiB (c1 : Bool) (p1 : Option Addr) (k1 : Nat) (L1 : List Nm) (h1 : L1.length ≤ 1000) (c2 : Bool) (p2 : Option Addr) (k2 : Nat) (L2 : List Nm) (h2 : L2.length ≤ 1000) (w : World) (s1 : SL w p1 L1) (s2 : SL w p2 L2) :
    Calls Try.prog 26 #[.agg #[.bool c1, .slice p1 L1.length k1], .agg #[.bool c2, .slice p2 L2.length k2]] w (NB w (c1 || c2) (uniL c1 L1 c2 L2)) :=
  (unionNames_any c1 p1 k1 L1 (by omega) c2 p2 k2 L2 (by omega) w s1 s2).mono fun e w' h => by rw [refUni] at h; exact h.nb
theorem rintB (c1 : Bool) (p1 : Option Addr) (k1 : Nat) (L1 : List Nm) (h1 : L1.length ≤ 1000) (c2 : Bool) (p2 : Option Addr) (k2 : Nat) (L2 : List Nm) (h2 : L2.length ≤ 1000) (w : World) (s1 : SL w p1 L1) (s2 : SL w p2 L2) :
    Calls Try.prog 27 #[.agg #[.bool c1, .slice p1 L1.length k1], .agg #[.bool c2, .slice p2 L2.length k2]] w (NB w (c1 && c2) (nrm (interL c1 L1 c2 L2))) :=
  (interNames_any c1 p1 k1 L1 (by omega) c2 p2 k2 L2 (by omega) w s1 s2).mono fun e w' h => by rw [refInt, cI] at h; exact h.nb
theorem subB (c1 : Bool) (p1 : Option Addr) (k1 : Nat) (L1 : List Nm) (h1 : L1.length ≤ 1000) (c2 : Bool) (p2 : Option Addr) (k2 : Nat) (L2 : List Nm) (h2 : L2.length ≤ 1000) (w : World) (s1 : SL w p1 L1) (s2 : SL w p2 L2) :
    Calls Try.prog 19 #[.agg #[.bool c1, .slice p1 L1.length k1], .agg #[.bool c2, .slice p2 L2.length k2]] w fun e w' => e = .returned (.bool (isSub c1 L1 c2 L2)) ∧ Below w.heap.size w w' :=
  issubset_any c1 p1 k1 L1 (by omega) c2 p2 k2 L2 (by omega) w s1 s2
theorem rsubB (c1 : Bool) (p1 : Option Addr) (k1 : Nat) (L1 : List Nm) (h1 : L1.length ≤ 1000) (c2 : Bool) (p2 : Option Addr) (k2 : Nat) (L2 : List Nm) (h2 : L2.length ≤ 1000) (w : World) (s1 : SL w p1 L1) (s2 : SL w p2 L2) :
    Calls Try.prog 21 #[.agg #[.bool c1, .slice p1 L1.length k1], .agg #[.bool c2, .slice p2 L2.length k2]] w fun e w' => e = .returned (.bool (isSub c1 L1 c2 L2)) ∧ Below w.heap.size w w' := by
  have := subsetNames_any c1 p1 k1 L1 (by omega) c2 p2 k2 L2 (by omega) w s1 s2
  rw [refSub] at this
  exact this
theorem sameB (c1 : Bool) (p1 : Option Addr) (k1 : Nat) (L1 : List Nm) (h1 : L1.length ≤ 10000) (c2 : Bool) (p2 : Option Addr) (k2 : Nat) (L2 : List Nm) (h2 : L2.length ≤ 10000) (w : World) (s1 : SL w p1 L1) (s2 : SL w p2 L2) :
    Calls Try.prog 12 #[.agg #[.bool c1, .slice p1 L1.length k1], .agg #[.bool c2, .slice p2 L2.length k2]] w fun e w' => e = .returned (.bool (decide (c1 = c2 ∧ L1 = L2))) ∧ Below w.heap.size w w' :=
  same_any c1 p1 k1 L1 (by omega) c2 p2 k2 L2 (by omega) w s1 s2
theorem hasB (c : Bool) (p : Option Addr) (k : Nat) (L : List Nm) (x : Nm) (h : L.length ≤ 1000) (w : World) (s : SL w p L) : Calls Try.prog 20 #[.agg #[.bool c, .slice p L.length k], .string (toB x)] w fun e w' => e = .returned (.bool (has c L x)) ∧ Below w.heap.size w w' :=
  contains20_any c p k L x (by omega) w s
end Go.Proofs.Ytejiagmfinhjbaa
