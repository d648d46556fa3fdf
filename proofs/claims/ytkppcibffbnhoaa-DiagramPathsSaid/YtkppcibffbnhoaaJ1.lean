/-
  Parts of FromPaths: a copy that the call owns, cells that hold diagrams.
-/
import Derived.Test.YtkppcibffbnhoaaH1
namespace Go.Proofs.Ytkppcibffbnhoaa
open Go.RowKit
set_option maxRecDepth 100000

/-- What a copy answers, and that it is the call's own. -/
def CO (xs : List Int) (w : World) (e : Ending) (w' : World) : Prop := ∃ v', e = .returned v' ∧ w'.ownsRow w.heap.size 3 1 v' xs.length (ic xs) ∧ Below w.heap.size w w'
set_option maxHeartbeats 4000000 in
theorem clone_own (v : Value) (xs : List Int) (w : World) (h : IS w v xs) (hl : xs.length ≤ 1000000) : Calls Try.prog 44 #[v] w (CO xs w) := by
  obtain ⟨p, c, rfl, hc, hr⟩ := h
  cases p with
  | none =>
    have hx : xs = [] := by
      rcases Nat.eq_zero_or_pos xs.length with h0 | h0
      · exact List.length_eq_zero_iff.1 h0
      · obtain ⟨a, o, e1, _⟩ := hr.2 h0; cases e1
    subst hx
    have he := eql_nil none 0 c
    rw [show (none : Option Addr).isNone = true from rfl] at he
    go_enter Try.func44, Try.ntmps44
    go_wp2
    go_ret
    exact ⟨_, rfl, World.ownsRow_nil _ _ _ _, Below.refl _ _⟩
  | some ad =>
    have hal := (Below.refl w.heap.size w).alloc (Nat.le_refl _) (.cells #[] 3)
    have hown : (w.alloc (.cells #[] 3)).ownsRow w.heap.size 3 1 (.slice (some ⟨w.heap.size, 0, none⟩) 0 0) 0 [] :=
      ⟨rfl, .inr ⟨w.heap.size, 0, #[], rfl, Nat.le_refl _, heap_alloc_new _ _, Nat.le_refl _, by decide, rfl, rfl⟩⟩
    have Hr := Lib.hid (hr.below hal)
    have Hal := Lib.hid hal; have Hown := Lib.hid hown
    have hsz := hal.size
    clear hr hal hown
    have he := eql_nil (some ad) xs.length c
    rw [show (some ad).isNone = false from rfl] at he
    have hl0 : (0 : Nat) + xs.length ≤ 67108864 := by omega
    go_enter Try.func44, Try.ntmps44
    go_wp2_with (first
      | (at_builtin; go_loud (refine wpList_append_ownrc rfl (.tmp 5) (.tmp 6) 44 rfl 3 (by kernel_rfl) int_info rfl (by decide) (by decide) w.heap.size _ (some ad) 0 xs.length c [] (ic xs) hsz (.slice (some ⟨w.heap.size, 0, none⟩) 0 0) rfl rfl Hown.out Hr.out (ic_one xs) hl0 ?_); intro v' w' ho hf; have Ho := Lib.hid ho; have Hbe := Lib.hid (hf.below hsz (by simp) (fun g hg => by simp [Value.ownBlock] at hg; omega)); clear ho hf))
    go_ret
    exact ⟨_, rfl, by have := Ho.out; rwa [Nat.zero_add, List.nil_append] at this, Hal.out.trans Hbe.out⟩
/-- A cell of the call's own that holds the diagram of a tree. -/
def CD (w : World) (g : Nat) (t : T) : Prop := ∃ p n c r, w.heap[g]? = some (.cells #[.slice p n c, .int .i64 r] 24) ∧ DV w (.agg #[.slice p n c, .int .i64 r]) t
theorem CD.below {w w' : World} {g : Nat} {t : T} (h : CD w g t) (hb : Below w.heap.size w w') : CD w' g t := by
  obtain ⟨p, n, c, r, h1, h2⟩ := h
  exact ⟨p, n, c, r, (hb.block _ (heap_lt h1)).trans h1, h2.below hb⟩
theorem DV.opened {w : World} {v : Value} {t : T} (h : DV w v t) : ∃ p n c r, v = .agg #[.slice p n c, .int .i64 r] := by
  obtain ⟨p, c, e, -⟩ := h.dd.ex
  exact ⟨_, _, _, _, e⟩
theorem CD.new {w : World} {p : Option Addr} {n c : Nat} {r : Int} {t : T} (h : DV w (.agg #[.slice p n c, .int .i64 r]) t) : CD (w.alloc (.cells #[.slice p n c, .int .i64 r] 24)) w.heap.size t :=
  ⟨p, n, c, r, heap_alloc_new _ _, h.below ((Below.refl _ _).alloc (Nat.le_refl _) _)⟩
theorem CD.put {w : World} {g : Nat} {x y : Value} {p : Option Addr} {n c : Nat} {r : Int} {t : T} (h : DV w (.agg #[.slice p n c, .int .i64 r]) t) (hg : w.heap[g]? = some (.cells #[x, y] 24)) : CD (w.setRow g #[.slice p n c, .int .i64 r]) g t :=
  ⟨p, n, c, r, setRow_heap _ _ _ _ _ _ hg, h.setRow hg⟩
theorem CD.other {w : World} {g g2 : Nat} {x y : Value} {cs : Array Value} {t : T} (h : CD w g2 t) (hg : w.heap[g]? = some (.cells #[x, y] 24)) (hne : g2 ≠ g) : CD (w.setRow g cs) g2 t := by
  obtain ⟨p, n, c, r, h1, h2⟩ := h
  exact ⟨p, n, c, r, (setRow_other _ _ _ _ hne).trans h1, h2.setRow hg⟩
theorem CD.ok {w : World} {g : Nat} {t : T} (h : CD w g t) : t.Ok := by obtain ⟨_, _, _, _, _, h⟩ := h; exact h.ok
theorem posB_take (M : Nat) (xs : List Int) (j n : Nat) (hj : j < xs.length) (hx : xs[j] = (n : Int)) : posB M (xs.take (j + 1)) = (posB M (xs.take j) && M.testBit n) := by
  unfold posB
  rw [List.take_succ_eq_append_getElem hj, List.all_append]
  simp [hx]
theorem negB_take (M : Nat) (xs : List Int) (j n : Nat) (hj : j < xs.length) (hx : xs[j] = (n : Int)) : negB M (xs.take (j + 1)) = (negB M (xs.take j) && !(M.testBit n)) := by
  unfold negB
  rw [List.take_succ_eq_append_getElem hj, List.all_append]
  simp [hx]
/-- What FromPaths answers. -/
def FR (ps : List IP) (w : World) (e : Ending) (w' : World) : Prop :=
  (¬ okP ps ∧ e = .returned (.tuple #[.agg #[.slice none 0 0, .int .i64 0], .int .i64 1]) ∧ Below w.heap.size w w') ∨
  (okP ps ∧ ∃ v t, e = .returned (.tuple #[v, .int .i64 0]) ∧ DV w' v t ∧ (∀ M, t.ev (bitsF M) = ps.any (holdsP M)) ∧ Below w.heap.size w w')
end Go.Proofs.Ytkppcibffbnhoaa
