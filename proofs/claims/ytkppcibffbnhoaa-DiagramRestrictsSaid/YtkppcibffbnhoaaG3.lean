/-
  Walks: the closure of Paths.
-/
import Derived.Test.YtkppcibffbnhoaaG2
namespace Go.Proofs.Ytkppcibffbnhoaa
open Go.RowKit
set_option maxRecDepth 100000

/-- The ways from a tree to true. -/
def waysT : T → List Int → List Int → List IP
  | .c false, _, _ => []
  | .c true, pos, neg => [(pos, neg)]
  | .n l h k, pos, neg => waysT h (pos ++ [(l : Int)]) neg ++ waysT k pos (neg ++ [(l : Int)])
theorem ways_len : ∀ {t : T}, t.Ok → ∀ pos neg, (waysT t pos neg).length ≤ 2 ^ (12 - t.lit)
  | .c false, _, _, _ => by simp [waysT]
  | .c true, _, _, _ => by simp [waysT, T.lit]
  | .n l h k, o, pos, neg => by
    have h1 := ways_len o.1 (pos ++ [(l : Int)]) neg
    have h2 := ways_len o.2.1 pos (neg ++ [(l : Int)])
    have h3 := lit_lt o
    have e1 : 2 ^ (12 - h.lit) ≤ 2 ^ (11 - l) := Nat.pow_le_pow_right (by omega) (by have := o.2.2.1; omega)
    have e2 : 2 ^ (12 - k.lit) ≤ 2 ^ (11 - l) := Nat.pow_le_pow_right (by omega) (by have := o.2.2.2.1; omega)
    have e3 : 2 ^ (12 - l) = 2 ^ (11 - l) + 2 ^ (11 - l) := by rw [show 12 - l = (11 - l) + 1 by omega, Nat.pow_succ]; omega
    simp only [waysT, List.length_append, T.lit]
    omega
def pcs (VP : List (Value × Value)) : List Value := VP.flatMap fun p => [p.1, p.2]
theorem pcs_len (VP : List (Value × Value)) : (pcs VP).length = VP.length * 2 := by
  induction VP with
  | nil => rfl
  | cons x N ih => simp only [pcs, List.flatMap_cons, List.length_append] at *; rw [ih]; simp; omega
theorem pcs_snoc (VP : List (Value × Value)) (x : Value × Value) : pcs (VP ++ [x]) = pcs VP ++ [x.1, x.2] := by simp [pcs]
theorem pcs_app (VP VQ : List (Value × Value)) : pcs (VP ++ VQ) = pcs VP ++ pcs VQ := by simp [pcs]
theorem pcs_get (VP : List (Value × Value)) (k : Nat) (h : k < VP.length) : (pcs VP)[2 * k]? = some (VP[k]).1 ∧ (pcs VP)[2 * k + 1]? = some (VP[k]).2 := by
  induction VP generalizing k with
  | nil => simp at h
  | cons x N ih =>
    have e : pcs (x :: N) = [x.1, x.2] ++ pcs N := by simp [pcs]
    rw [e]
    cases k with
    | zero => exact ⟨rfl, rfl⟩
    | succ k =>
      have := ih k (by simpa using h)
      rw [List.getElem?_append_right (by simp; omega), List.getElem?_append_right (by simp; omega)]
      simp only [List.length_cons, List.length_nil]
      rw [show 2 * (k + 1) - (0 + 1 + 1) = 2 * k by omega, show 2 * (k + 1) + 1 - (0 + 1 + 1) = 2 * k + 1 by omega]
      exact this
/-- The values are the paths. -/
structure VI2 (w : World) (VP : List (Value × Value)) (ps : List IP) : Prop where
  len : VP.length = ps.length
  at' : ∀ k (h1 : k < VP.length) (h2 : k < ps.length), I3 w (VP[k]).1 (ps[k]).1 ∧ I3 w (VP[k]).2 (ps[k]).2
theorem VI2.nil (w : World) : VI2 w [] [] := ⟨rfl, fun k h => by simp at h⟩
theorem VI2.keep {w w' : World} {VP : List (Value × Value)} {ps : List IP} (h : VI2 w VP ps) (hb : ∀ (a : Nat) (arr : Array Value), w.heap[a]? = some (.cells arr 3) → w'.heap[a]? = w.heap[a]?) : VI2 w' VP ps :=
  ⟨h.len, fun k h1 h2 => ⟨(h.at' k h1 h2).1.keep hb, (h.at' k h1 h2).2.keep hb⟩⟩
theorem VI2.app {w : World} {VP VQ : List (Value × Value)} {ps qs : List IP} (h : VI2 w VP ps) (k : VI2 w VQ qs) : VI2 w (VP ++ VQ) (ps ++ qs) := by
  refine ⟨by simp [h.len, k.len], fun i h1 h2 => ?_⟩
  rcases Nat.lt_or_ge i VP.length with hi | hi
  · have hi2 : i < ps.length := by rw [← h.len]; exact hi
    rw [List.getElem_append_left hi, List.getElem_append_left hi2]
    exact h.at' i hi hi2
  · have hi2 : ps.length ≤ i := by rw [← h.len]; exact hi
    rw [List.getElem_append_right hi, List.getElem_append_right hi2]
    simp only [h.len]
    exact k.at' _ _ _
theorem VI2.one {w : World} {v1 v2 : Value} {xs ys : List Int} (h1 : I3 w v1 xs) (h2 : I3 w v2 ys) : VI2 w [(v1, v2)] [(xs, ys)] :=
  ⟨rfl, fun k hk _ => by
    obtain rfl : k = 0 := by simpa using hk
    exact ⟨h1, h2⟩⟩
theorem VI2.ps {w : World} {B cap : Nat} {p : Option Addr} {VP : List (Value × Value)} {ps : List IP} (h : VI2 w VP ps) (ho : w.ownsRow B 46 2 (.slice p VP.length cap) VP.length (pcs VP)) : PS w p VP.length ps :=
  ⟨h.len, fun k hk => by
    have hk' : k < VP.length := by rw [h.len]; exact hk
    obtain ⟨g, rfl⟩ := own_ptr ho (by omega)
    obtain ⟨e1, e2⟩ := pcs_get VP k hk'
    have hc := ho.cells (g := g) rfl
    have c1 := hc _ _ e1
    have c2 := hc _ _ e2
    rw [add_none] at c1 c2
    obtain ⟨i1, i2⟩ := h.at' k hk' hk
    exact ⟨g, 0, _, _, rfl, (ho.lt g rfl).2, by rw [Nat.mul_comm]; exact c1, by rw [Nat.mul_comm, Nat.add_assoc]; exact c2, i1.is, i2.is⟩⟩

structure PB where
  ov : Nat
  dv : Nat
  wv : Nat
/-- A walk over paths that goes on. -/
structure PI (Z : Nat) (c : PB) (p : Option Addr) (cap r : Nat) (L : List T) (VP : List (Value × Value)) (ps : List IP) (v : Value) (w : World) : Prop where
  ov : w.heap[c.ov]? = some (.cells #[v] 25)
  dv : w.heap[c.dv]? = some (.cells #[.slice p (nodes L).length cap, .int .i64 r] 24)
  wv : w.heap[c.wv]? = some (.cells #[.func (.func 43) #[] #[.pointer (some ⟨c.ov, 0, none⟩), .pointer (some ⟨c.dv, 0, none⟩), .pointer (some ⟨c.wv, 0, none⟩)]] 68)
  ns : NZ Z w p (nodes L)
  own : w.ownsRow Z 46 2 v VP.length (pcs VP)
  vals : VI2 w VP ps
  wf : Wf L
  zov : Z ≤ c.ov
  zw : Z ≤ w.heap.size
theorem PI.below {Z : Nat} {c : PB} {p : Option Addr} {cap r : Nat} {L : List T} {VP : List (Value × Value)} {ps : List IP} {v : Value} {w w' : World} (h : PI Z c p cap r L VP ps v w) (hb : Below w.heap.size w w') : PI Z c p cap r L VP ps v w' :=
  ⟨(hb.block _ (heap_lt h.ov)).trans h.ov, (hb.block _ (heap_lt h.dv)).trans h.dv, (hb.block _ (heap_lt h.wv)).trans h.wv, h.ns.below ⟨hb.os, hb.tape, hb.output, hb.size, fun k hk => hb.block k (Nat.lt_of_lt_of_le hk h.zw)⟩, ownsRow_below h.own hb (Nat.le_refl _), h.vals.keep fun a arr ha => hb.block a (heap_lt ha), h.wf, h.zov, Nat.le_trans h.zw hb.size⟩
theorem PI.far {Z : Nat} {c : PB} {p : Option Addr} {cap r : Nat} {L : List T} {VP : List (Value × Value)} {ps : List IP} {v v' : Value} {w w' : World} (h : PI Z c p cap r L VP ps v w) (hf : Fr [c.ov] v v' w w') {x : Nat} {cs : Array Value} {t : TypeId} (hx : w.heap[x]? = some (.cells cs t)) (h1 : t ≠ 25) (h2 : t ≠ 46) : w'.heap[x]? = some (.cells cs t) := by
  refine (hf.block _ (heap_lt hx) ?_ (own_ne' h.own hx h2)).trans hx
  simp only [List.mem_cons, List.not_mem_nil, or_false]
  exact ne_of hx h.ov (by simp [h1])
/-- All that does not turn is there still. -/
theorem PI.step {Z : Nat} {c : PB} {p : Option Addr} {cap r : Nat} {L : List T} {VP VP' : List (Value × Value)} {ps ps' : List IP} {v v' : Value} {w w' : World} (h : PI Z c p cap r L VP ps v w) (hf : Fr [c.ov] v v' w w') (ho : w'.heap[c.ov]? = some (.cells #[v'] 25)) (hw : w'.ownsRow Z 46 2 v' VP'.length (pcs VP')) (hv : VI2 w' VP' ps') : PI Z c p cap r L VP' ps' v' w' := by
  have hB : Below Z w w' := hf.below h.zw (by simp; exact h.zov) (fun g hg => (h.own.lt g hg).1)
  exact ⟨ho, h.far hf h.dv (by decide) (by decide), h.far hf h.wv (by decide) (by decide), h.ns.below hB, hw, hv, h.wf, h.zov, Nat.le_trans h.zw hB.size⟩
theorem PI.ints {Z : Nat} {c : PB} {p : Option Addr} {cap r : Nat} {L : List T} {VP : List (Value × Value)} {ps : List IP} {v v' : Value} {w w' : World} (h : PI Z c p cap r L VP ps v w) (hf : Fr [c.ov] v v' w w') : ∀ (a : Nat) (arr : Array Value), w.heap[a]? = some (.cells arr 3) → w'.heap[a]? = w.heap[a]? :=
  fun a arr ha => (h.far hf ha (by decide) (by decide)).trans ha.symm
/-- What the closure answers. -/
structure PR (Z : Nat) (c : PB) (p : Option Addr) (cap r : Nat) (L : List T) (qs : List IP) (ps : List IP) (v : Value) (w : World) (e : Ending) (w' : World) : Prop where
  ex : ∃ VP' v', e = .returned (.tuple #[]) ∧ PI Z c p cap r L VP' (ps ++ qs) v' w' ∧ Fr [c.ov] v v' w w'
end Go.Proofs.Ytkppcibffbnhoaa
