/-
  Walks: the builder's finish: the closure that walks.
-/
import Derived.Test.YtkppcibffbnhoaaC1
namespace Go.Proofs.Ytkppcibffbnhoaa
open Go.RowKit

theorem nodup_len {α : Type} [DecidableEq α] : ∀ (l m : List α), l.Nodup → (∀ x ∈ l, x ∈ m) → l.length ≤ m.length
  | [], _, _, _ => Nat.zero_le _
  | a :: l, m, hn, hs => by
    obtain ⟨h1, h2⟩ := List.nodup_cons.1 hn
    have hm : a ∈ m := hs a (by simp)
    have := nodup_len l (m.erase a) h2 fun x hx => (List.mem_erase_of_ne (fun e => h1 (by rw [← e]; exact hx))).2 (hs x (by simp [hx]))
    have h3 := List.length_erase_of_mem hm
    have h4 : 0 < m.length := List.length_pos_of_mem hm
    simp only [List.length_cons]
    omega
def innB (M : List T) : T → Bool
  | .c _ => true
  | .n l h k => decide (T.n l h k ∈ M)
theorem innB_iff {M : List T} : ∀ {t : T}, innB M t = true ↔ inn M t
  | .c _ => by simp [innB, inn]
  | .n _ _ _ => by simp [innB, inn]
/-- What 'place' has when the trees M are finished. -/
def placeF (L M : List T) (r : Nat) : Option Int := if r < L.length + 2 ∧ innB M (tr L r) = true then some ((ref M (tr L r) : Nat) : Int) else none
theorem placeF_hit {L M : List T} {t : T} (hL : inn L t) (hM : inn M t) : placeF L M (ref L t) = some ((ref M t : Nat) : Int) := by
  unfold placeF
  rw [tr_ref hL, if_pos ⟨ref_lt hL, innB_iff.2 hM⟩]
theorem placeF_miss {L M : List T} {t : T} (hL : inn L t) (hM : ¬ inn M t) : placeF L M (ref L t) = none := by
  unfold placeF
  rw [tr_ref hL, if_neg fun h => hM (innB_iff.1 h.2)]
theorem placeF_snoc {L M : List T} {l : Nat} {h k : T} (wL : Wf L) (wM : Wf M) (hL : inn L (.n l h k)) (hM : T.n l h k ∉ M) (z : Nat) :
    placeF L (M ++ [.n l h k]) z = if z = ref L (.n l h k) then some ((M.length + 2 : Nat) : Int) else placeF L M z := by
  by_cases hz : z = ref L (.n l h k)
  · subst hz
    rw [if_pos rfl, placeF_hit hL (show T.n l h k ∈ M ++ [T.n l h k] by simp)]
    simp only [ref]
    rw [List.idxOf_append, if_neg hM]; simp
  · rw [if_neg hz]
    unfold placeF
    by_cases hr : z < L.length + 2
    · obtain ⟨h1, h2⟩ := tr_inn wL hr
      have hne : tr L z ≠ .n l h k := fun e => hz (by rw [← h2, e])
      by_cases hm : inn M (tr L z)
      · rw [if_pos ⟨hr, innB_iff.2 (inn_app hm)⟩, if_pos ⟨hr, innB_iff.2 hm⟩, ref_app hm]
      · have h4 : ¬ (z < L.length + 2 ∧ innB M (tr L z) = true) := fun h => hm (innB_iff.1 h.2)
        have h5 : ¬ (z < L.length + 2 ∧ innB (M ++ [T.n l h k]) (tr L z) = true) := by
          rintro ⟨_, h3⟩
          rw [innB_iff] at h3
          clear h4 h2 h1
          revert hm h3 hne
          cases tr L z with
          | c b => intro _ hm; exact absurd trivial hm
          | n l' h' k' =>
            intro hne hm h3
            rcases List.mem_append.1 (show T.n l' h' k' ∈ M ++ [T.n l h k] from h3) with h4 | h4
            · exact hm h4
            · exact hne (List.mem_singleton.1 h4)
        rw [if_neg h5, if_neg h4]
    · rw [if_neg fun h => hr h.1, if_neg fun h => hr h.1]
theorem placeF_start {L : List T} (wL : Wf L) (z : Nat) : placeF L [] z = if z = 1 then some 1 else if z = 0 then some 0 else none := by
  unfold placeF
  match z with
  | 0 => simp [tr, innB, ref]
  | 1 => simp [tr, innB, ref]
  | z + 2 =>
    rw [if_neg (show ¬ z + 2 = 1 by omega), if_neg (show ¬ z + 2 = 0 by omega), if_neg]
    rintro ⟨h1, h2⟩
    obtain ⟨h3, _⟩ := tr_inn wL h1
    have hz : z < L.length := by omega
    have e : tr L (z + 2) = L[z] := by simp only [tr]; rw [List.getD_eq_getElem?_getD, List.getElem?_eq_getElem hz]; rfl
    obtain ⟨l, h, k, hx⟩ := wL.nc _ (List.getElem_mem hz)
    rw [e, hx] at h2
    simp [innB] at h2

/-- A row of nodes below Z. -/
def NZ (Z : Nat) (w : World) (p : Option Addr) (N : List Tri) : Prop :=
  ∀ k (h : k < N.length), ∃ a o, p = some ⟨a, o, none⟩ ∧ a < Z ∧ w.cell? ⟨a, o + k * 3, none⟩ = some (.int .i64 (N[k]).1) ∧ w.cell? ⟨a, o + k * 3 + 1, none⟩ = some (.int .i64 (N[k]).2.1) ∧ w.cell? ⟨a, o + k * 3 + 2, none⟩ = some (.int .i64 (N[k]).2.2)
theorem NZ.below {Z : Nat} {w w' : World} {p : Option Addr} {N : List Tri} (h : NZ Z w p N) (hb : Below Z w w') : NZ Z w' p N := fun k hk => by
  obtain ⟨a, o, h1, h2, h3, h4, h5⟩ := h k hk
  exact ⟨a, o, h1, h2, (hb.cell (p := ⟨a, _, none⟩) h2).trans h3, (hb.cell (p := ⟨a, _, none⟩) h2).trans h4, (hb.cell (p := ⟨a, _, none⟩) h2).trans h5⟩
theorem NZ.ns {Z : Nat} {w : World} {p : Option Addr} {N : List Tri} (h : NZ Z w p N) (hZ : Z ≤ w.heap.size) : NS w p N := fun k hk => by
  obtain ⟨a, o, h1, h2, h3⟩ := h k hk
  exact ⟨a, o, h1, Nat.lt_of_lt_of_le h2 hZ, h3⟩
theorem NS.nz {w : World} {p : Option Addr} {N : List Tri} (h : NS w p N) : NZ w.heap.size w p N := h

structure FB where
  pv : Nat
  pm : Nat
  bv : Nat
  b : Nat
  kb : Nat
  wv : Nat
  ov : Nat
/-- The state of a finish that goes on: the trees M are finished. -/
structure FI (Z : Nat) (c : FB) (np : Option Addr) (ncap : Nat) (L M : List T) (v : Value) (w : World) : Prop where
  pv : w.heap[c.pv]? = some (.cells #[.map (some c.pm)] 72)
  bv : w.heap[c.bv]? = some (.cells #[.pointer (some ⟨c.b, 0, none⟩)] 58)
  wv : w.heap[c.wv]? = some (.cells #[.func (.func 52) #[] #[.pointer (some ⟨c.pv, 0, none⟩), .pointer (some ⟨c.bv, 0, none⟩), .pointer (some ⟨c.wv, 0, none⟩), .pointer (some ⟨c.ov, 0, none⟩)]] 73)
  ov : w.heap[c.ov]? = some (.cells #[v] 22)
  bld : w.heap[c.b]? = some (.cells #[.slice np L.length ncap, .map (some c.kb)] 78)
  ns : NZ Z w np (nodes L)
  own : w.ownsRow Z 32 3 v M.length (triCells (nodes M))
  pl : MV w 3 lit1 good1 c.pm (M.length + 2) (placeF L M)
  wfL : Wf L
  wfM : Wf M
  sub : ∀ x ∈ M, x ∈ L
  hov : Z ≤ c.ov
  hpm : Z ≤ c.pm
  hb : c.b < Z
theorem FI.Z_le {Z : Nat} {c : FB} {np : Option Addr} {ncap : Nat} {L M : List T} {v : Value} {w : World} (h : FI Z c np ncap L M v w) : Z ≤ w.heap.size := by have := heap_lt h.ov; have := h.hov; omega
theorem FI.below {Z : Nat} {c : FB} {np : Option Addr} {ncap : Nat} {L M : List T} {v : Value} {w w' : World} (h : FI Z c np ncap L M v w) (hb : Below w.heap.size w w') : FI Z c np ncap L M v w' :=
  ⟨(hb.block _ (heap_lt h.pv)).trans h.pv, (hb.block _ (heap_lt h.bv)).trans h.bv, (hb.block _ (heap_lt h.wv)).trans h.wv, (hb.block _ (heap_lt h.ov)).trans h.ov, (hb.block _ (heap_lt h.bld)).trans h.bld, h.ns.below ⟨hb.os, hb.tape, hb.output, hb.size, fun k hk => hb.block k (Nat.lt_of_lt_of_le hk h.Z_le)⟩, ownsRow_below h.own hb (Nat.le_refl _), h.pl.below hb, h.wfL, h.wfM, h.sub, h.hov, h.hpm, h.hb⟩
theorem FI.len {Z : Nat} {c : FB} {np : Option Addr} {ncap : Nat} {L M : List T} {v : Value} {w : World} (h : FI Z c np ncap L M v w) : M.length ≤ L.length := nodup_len _ _ h.wfM.nodup h.sub
theorem cells1 {w : World} {b : Nat} {v0 : Value} {t : TypeId} (h : w.heap[b]? = some (.cells #[v0] t)) : w.cell? ⟨b, 0, none⟩ = some v0 ∧ ∀ i, w.frozen? ⟨b, i, none⟩ = false := by
  simp [World.cell?, World.frozen?, h]
theorem ne_of {w : World} {a b : Nat} {o1 o2 : Obj} (h1 : w.heap[a]? = some o1) (h2 : w.heap[b]? = some o2) (h : o1 ≠ o2) : a ≠ b := fun e => by
  subst e; rw [h1] at h2; exact h (Option.some.inj h2)
theorem own_ne {w : World} {B n b : Nat} {v : Value} {xs : List Value} {cs : Array Value} {t : TypeId} {fr : Nat × Nat} (h : w.ownsRow B 32 3 v n xs) (hb : w.heap[b]? = some (.cells cs t fr)) (ht : t ≠ 32) : v.ownBlock ≠ some b := fun e => by
  rcases h.2 with ⟨rfl, _⟩ | ⟨g, cap, cur, rfl, h4, h5, _⟩
  · cases e
  · cases e; rw [h5] at hb; simp at hb; exact ht hb.2.1.symm
theorem own_ne_map {w : World} {B n b : Nat} {v : Value} {xs : List Value} {es : Array MapEntry} {ck : Nat} (h : w.ownsRow B 32 3 v n xs) (hb : w.heap[b]? = some (.map es ck)) : v.ownBlock ≠ some b := fun e => by
  rcases h.2 with ⟨rfl, _⟩ | ⟨g, cap, cur, rfl, h4, h5, _⟩
  · cases e
  · cases e; rw [h5] at hb; simp at hb
theorem MV.obj {α : Type} {w : World} {k : TypeId} {lit : α → Lit} {good : α → Prop} {b n : Nat} {f : α → Option Int} (h : MV w k lit good b n f) : ∃ es ck, w.heap[b]? = some (.map es ck) := by
  obtain ⟨D, ⟨es, ck, h1, _⟩, _⟩ := h; exact ⟨es, ck, h1⟩
/-- All that does not turn is there still. -/
theorem FI.step {Z : Nat} {c : FB} {np : Option Addr} {ncap : Nat} {L M M' : List T} {v v' : Value} {w w' : World} (h : FI Z c np ncap L M v w) (hf : Fr [c.ov, c.pm] v v' w w') (ho : w'.heap[c.ov]? = some (.cells #[v'] 22)) (hw : w'.ownsRow Z 32 3 v' M'.length (triCells (nodes M'))) (hp : MV w' 3 lit1 good1 c.pm (M'.length + 2) (placeF L M')) (wM : Wf M') (hs : ∀ x ∈ M', x ∈ L) : FI Z c np ncap L M' v' w' := by
  obtain ⟨es, ck, hmap⟩ := h.pl.obj
  have hB : Below Z w w' := hf.below h.Z_le (by simp; exact ⟨h.hov, h.hpm⟩) (fun g hg => (h.own.lt g hg).1)
  have key : ∀ {x : Nat} {cs : Array Value} {t : TypeId}, w.heap[x]? = some (.cells cs t) → t ≠ 22 → t ≠ 32 → w'.heap[x]? = some (.cells cs t) := fun {x cs t} hx h22 h32 => by
    refine (hf.block _ (heap_lt hx) ?_ (own_ne h.own hx h32)).trans hx
    simp only [List.mem_cons, List.not_mem_nil, or_false, not_or]
    exact ⟨ne_of hx h.ov (by simp [h22]), ne_of hx hmap (by simp)⟩
  exact ⟨key h.pv (by decide) (by decide), key h.bv (by decide) (by decide), key h.wv (by decide) (by decide), ho, key h.bld (by decide) (by decide), h.ns.below hB, hw, hp, h.wfL, wM, hs, h.hov, h.hpm, h.hb⟩
end Go.Proofs.Ytkppcibffbnhoaa
