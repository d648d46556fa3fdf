/-
  Plain: what a restriction is.
-/
import Derived.Test.YtkppcibffbnhoaaE5
namespace Go.Proofs.Ytkppcibffbnhoaa

def updI (a : Nat → Bool) (l : Int) (b : Bool) : Nat → Bool := fun i => if (i : Int) = l then b else a i
/-- R is the tree s with the literal l set to b. -/
structure Rst (l : Int) (b : Bool) (s R : T) : Prop where
  ok : R.Ok
  ev : ∀ a, R.ev a = s.ev (updI a l b)
theorem updI_congr {a a' : Nat → Bool} {l : Int} {b : Bool} (h : ∀ i, i < 12 → a i = a' i) : ∀ i, i < 12 → updI a l b i = updI a' l b i := fun i hi => by
  unfold updI; split
  · rfl
  · exact h i hi
theorem rst_ex {s : T} (o : s.Ok) (l : Int) (b : Bool) : ∃ R, Rst l b s R := by
  obtain ⟨R, h1, h2⟩ := tree_of (fun a => s.ev (updI a l b)) fun a a' h => ev_same o (updI_congr h)
  exact ⟨R, h1, h2⟩
theorem Rst.uniq {l : Int} {b : Bool} {s R R' : T} (h : Rst l b s R) (k : Rst l b s R') : R = R' := ev_eq h.ok k.ok fun a => by rw [h.ev, k.ev]
theorem Rst.const {l : Int} {b x : Bool} {R : T} (h : Rst l b (.c x) R) : R = .c x := eq_c h.ok fun a => by rw [h.ev]; rfl
theorem Rst.lit {l : Int} {b : Bool} {s R : T} {m : Nat} (h : Rst l b s R) (os : s.Ok) (hm : m < s.lit) (m12 : m < 12) : m < R.lit := by
  refine lit_gt m12 h.ok fun a i v hi => ?_
  rw [h.ev, h.ev]
  refine ev_congr os fun j hj _ => ?_
  unfold updI upd
  split
  · rfl
  · rw [if_neg (by omega)]
theorem Rst.node {l : Int} {b : Bool} {m : Nat} {h k R : T} (o : (T.n m h k).Ok) (hR : Rst l b (.n m h k) R) : ∃ H G, Rst l b h H ∧ Rst l b k G ∧ ((m : Int) = l → R = if b then H else G) ∧ ((m : Int) ≠ l → R = Proofs.Ytkppcibffbnhoaa.mk m H G ∧ m < H.lit ∧ m < G.lit) := by
  obtain ⟨H, hH⟩ := rst_ex o.1 l b
  obtain ⟨G, hG⟩ := rst_ex o.2.1 l b
  have m12 := lit_lt o
  have lH := hH.lit o.1 o.2.2.1 m12
  have lG := hG.lit o.2.1 o.2.2.2.1 m12
  have hev : ∀ a, R.ev a = if updI a l b m then H.ev a else G.ev a := fun a => by
    rw [hR.ev, hH.ev, hG.ev]; rfl
  refine ⟨H, G, hH, hG, fun e => ?_, fun e => ⟨?_, lH, lG⟩⟩
  · refine ev_eq hR.ok ?_ fun a => ?_
    · cases b <;> simp [hH.ok, hG.ok]
    · rw [hev, show updI a l b m = b by unfold updI; rw [if_pos e]]
      cases b <;> simp
  · refine ev_eq hR.ok (mk_ok hH.ok hG.ok lH lG) fun a => ?_
    rw [hev, mk_ev, show updI a l b m = a m by unfold updI; rw [if_neg e]]
structure Mem1 (l : Int) (b : Bool) (La L : List T) (K : List Nat) (f : Nat → Option Int) : Prop where
  nd : K.Nodup
  mem : ∀ z, z ∈ K ↔ (f z).isSome = true
  rng : ∀ z ∈ K, z < La.length + 2
  val : ∀ s R r, inn La s → Rst l b s R → f (ref La s) = some r → inn L R ∧ r = ((ref L R : Nat) : Int)
  c0 : (f 0).isSome = true
  c1 : (f 1).isSome = true
theorem Mem1.start (l : Int) (b : Bool) (La L : List T) : Mem1 l b La L [1, 0] fun z => if z = 1 then some 1 else if z = 0 then some 0 else none := by
  refine ⟨by decide, fun z => ?_, fun z hz => ?_, fun s R r i1 h2 h3 => ?_, rfl, rfl⟩
  · by_cases h1 : z = 1
    · simp [h1]
    · by_cases h0 : z = 0
      · simp [h0]
      · simp [h1, h0]
  · simp at hz; omega
  · cases s with
    | c x =>
      obtain rfl := h2.const
      cases x
      · exact ⟨trivial, by simp [ref] at h3; exact h3.symm⟩
      · exact ⟨trivial, by simp [ref] at h3; exact h3.symm⟩
    | n m h k =>
      rw [show ref La (T.n m h k) = La.idxOf (T.n m h k) + 2 from rfl, if_neg (by omega), if_neg (by omega)] at h3
      cases h3
theorem Mem1.grow {l : Int} {b : Bool} {La L : List T} {K : List Nat} {f : Nat → Option Int} (h : Mem1 l b La L K f) (M : List T) : Mem1 l b La (L ++ M) K f :=
  ⟨h.nd, h.mem, h.rng, fun s R r h1 h2 h5 => by
    obtain ⟨e1, e2⟩ := h.val s R r h1 h2 h5
    exact ⟨inn_app e1, by rw [ref_app e1]; exact e2⟩, h.c0, h.c1⟩
theorem Mem1.put {l : Int} {b : Bool} {La L : List T} {K : List Nat} {f : Nat → Option Int} (h : Mem1 l b La L K f) {s R : T} (hs : inn La s) (hR : Rst l b s R) (iR : inn L R) (hn : f (ref La s) = none) :
    Mem1 l b La L (ref La s :: K) fun z => if z = ref La s then some ((ref L R : Nat) : Int) else f z := by
  refine ⟨List.nodup_cons.2 ⟨fun hm => ?_, h.nd⟩, fun z => ?_, fun z hz => ?_, fun s' R' r h1 h2 h5 => ?_, ?_, ?_⟩
  · have := (h.mem _).1 hm; rw [hn] at this; cases this
  · by_cases hz : z = ref La s
    · simp [hz]
    · simp only [List.mem_cons, hz, false_or, if_false]; exact h.mem z
  · rcases List.mem_cons.1 hz with rfl | hz
    · exact ref_lt hs
    · exact h.rng z hz
  · split at h5
    · rename_i e
      obtain rfl := ref_inj h1 hs e
      obtain rfl := h2.uniq hR
      exact ⟨iR, (Option.some.inj h5).symm⟩
    · exact h.val s' R' r h1 h2 h5
  · split
    · rfl
    · exact h.c0
  · split
    · rfl
    · exact h.c1
theorem Mem1.len {l : Int} {b : Bool} {La L : List T} {K : List Nat} {f : Nat → Option Int} (h : Mem1 l b La L K f) : K.length ≤ La.length + 2 := by
  have := nodup_le K (List.range (La.length + 2)) h.nd fun x hx => List.mem_range.2 (h.rng x hx)
  simpa using this
end Go.Proofs.Ytkppcibffbnhoaa
