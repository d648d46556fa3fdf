/-
  Plain: the literals of a tree, and its restrictions.
-/
import Derived.Test.YtkppcibffbnhoaaM0
namespace Go.Proofs.Ytkppcibffbnhoaa

/-- A tree that holds a node of the literal l. -/
def T.has (l : Nat) : T → Prop
  | .c _ => False
  | .n m h k => m = l ∨ T.has l h ∨ T.has l k
theorem ev_nohas {l : Nat} {a : Nat → Bool} {b : Bool} : ∀ {t : T}, ¬ t.has l → t.ev (updI a l b) = t.ev a
  | .c _, _ => rfl
  | .n m h k, hn => by
    simp only [T.has, not_or] at hn
    simp only [T.ev]
    rw [ev_nohas hn.2.1, ev_nohas hn.2.2, show updI a (l : Int) b m = a m by unfold updI; rw [if_neg (by omega)]]
theorem updI_upd (a : Nat → Bool) (l : Nat) (b : Bool) : updI a (l : Int) b = upd a l b := by
  funext i; unfold updI upd
  by_cases h : i = l
  · rw [if_pos h, if_pos (by omega)]
  · rw [if_neg h, if_neg (by omega)]
theorem indep_nohas {l : Nat} : ∀ {t : T}, t.Ok → (∀ a, t.ev (upd a l true) = t.ev (upd a l false)) → ¬ t.has l
  | .c _, _, _ => fun h => h
  | .n m h k, o, hi => by
    by_cases e : m = l
    · subst e
      refine absurd (ev_eq o.1 o.2.1 fun a => ?_) o.2.2.2.2
      have := hi a
      rwa [ev_high o, ev_low o] at this
    · have hh : ∀ a, h.ev (upd a l true) = h.ev (upd a l false) := fun a => by
        have := hi (upd a m true)
        rwa [upd_comm a e true true, upd_comm a e true false, ev_high o, ev_high o] at this
      have hk : ∀ a, k.ev (upd a l true) = k.ev (upd a l false) := fun a => by
        have := hi (upd a m false)
        rwa [upd_comm a e false true, upd_comm a e false false, ev_low o, ev_low o] at this
      simp only [T.has, not_or]
      exact ⟨e, indep_nohas o.1 hh, indep_nohas o.2.1 hk⟩
theorem has_iff {l : Nat} {t H G : T} (o : t.Ok) (hH : Rst (l : Int) true t H) (hG : Rst (l : Int) false t G) : t.has l ↔ H ≠ G := by
  constructor
  · rintro h rfl
    refine indep_nohas o (fun a => ?_) h
    rw [← updI_upd, ← updI_upd, ← hH.ev, ← hG.ev]
  · intro h
    refine Classical.byContradiction fun hn => h (ev_eq hH.ok hG.ok fun a => ?_)
    rw [hH.ev, hG.ev, ev_nohas hn, ev_nohas hn]
end Go.Proofs.Ytkppcibffbnhoaa
