/-
  Walks: reading all records.
-/
import Derived.Test.YtmflngpgmmgohaaSi
import Derived.Laws.AppendOwn
namespace Go.Proofs.Ytmflngpgmmgohaa
open Go.RowKit

abbrev Rec := ByteArray × ByteArray
def recCells (l : List Rec) : List Value := l.flatMap fun r => [.string r.1, .string r.2]
theorem recCells_nil : recCells [] = [] := rfl
theorem recCells_snoc (l : List Rec) (r : Rec) : recCells (l ++ [r]) = recCells l ++ [.string r.1, .string r.2] := by simp [recCells]
theorem recCells_length (l : List Rec) : (recCells l).length = l.length * 2 := by
  induction l with
  | nil => rfl
  | cons r l ih => simp [recCells] at ih ⊢; omega

inductive Chain (s : ByteArray) : List Rec → ByteArray → Prop
  | nil : Chain s [] s
  | snoc {l : List Rec} {m rest : ByteArray} {r : Rec} : Chain s l m → recV m = some (r, rest) → Chain s (l ++ [r]) rest

theorem lenGo_pos {s : ByteArray} : ∀ (f i z n k : Nat), lenGo s f i z = some (n, k) → 0 < k ∧ k ≤ s.size
  | 0, _, _, _, _, h => by simp [lenGo] at h
  | f + 1, i, z, n, k, h => by
    unfold lenGo at h
    split at h
    · split at h
      · split at h
        · simp only [Option.some.injEq, Prod.mk.injEq] at h; omega
        · exact absurd h (by simp)
      · exact lenGo_pos f _ _ _ _ h
    · exact absurd h (by simp)
theorem cutV_lt {s a b : ByteArray} (h : cutV s = some (a, b)) : a.size + b.size < s.size := by
  unfold cutV at h
  split at h
  · rename_i n k hl
    have hk := lenGo_pos _ _ _ _ _ hl
    split at h
    · exact absurd h (by simp)
    · rename_i hn
      simp only [Option.some.injEq, Prod.mk.injEq] at h
      obtain ⟨rfl, rfl⟩ := h
      simp at hn ⊢
      omega
  · exact absurd h (by simp)
theorem recV_lt {s : ByteArray} {r : Rec} {rest : ByteArray} (h : recV s = some (r, rest)) : rest.size < s.size := by
  unfold recV at h
  split at h
  · exact absurd h (by simp)
  · rename_i body rest' h1
    have := cutV_lt h1
    split at h
    · split at h
      · exact absurd h (by simp)
      · split at h
        · exact absurd h (by simp)
        · split at h
          · simp only [Option.some.injEq, Prod.mk.injEq] at h
            obtain ⟨_, rfl⟩ := h
            omega
          · exact absurd h (by simp)
    · exact absurd h (by simp)
theorem Chain.le {s t : ByteArray} {l : List Rec} (h : Chain s l t) : t.size + l.length ≤ s.size := by
  induction h with
  | nil => simp
  | snoc h1 h2 ih => have := recV_lt h2; simp; omega

theorem rec_info : (Try.prog.info? 44).map (fun i => (i.zero, i.size, i.bytes)) = some (some (.agg #[.string ⟨#[]⟩, .string ⟨#[]⟩]), 2, 32) := by kernel_rfl

theorem ownsRow_below {B : Nat} {w w1 : World} {b : Nat} {e : TypeId} {size n : Nat} {v : Value} {xs : List Value} (h : w.ownsRow b e size v n xs) (hB : Below B w w1) (hw : w.heap.size ≤ B) : w1.ownsRow b e size v n xs := by
  refine ⟨h.1, ?_⟩
  rcases h.2 with h2 | ⟨g, cap, cur, h3, h4, h5, h6⟩
  · exact .inl h2
  · refine .inr ⟨g, cap, cur, h3, h4, ?_, h6⟩
    have hlt : g < w.heap.size := by
      by_cases hlt : g < w.heap.size
      · exact hlt
      · have : w.heap[g]? = none := by simp; omega
        rw [this] at h5; exact absurd h5 (by simp)
    rw [hB.block g (by omega)]; exact h5
theorem ownsRow_setRow {w : World} {b : Nat} {e : TypeId} {size n : Nat} {v : Value} {xs : List Value} (h : w.ownsRow b e size v n xs) {k : Nat} (hk : v.ownBlock ≠ some k) (cs : Array Value) : (w.setRow k cs).ownsRow b e size v n xs := by
  refine ⟨h.1, ?_⟩
  rcases h.2 with h2 | ⟨g, cap, cur, rfl, h4, h5, h6⟩
  · exact .inl h2
  · refine .inr ⟨g, cap, cur, rfl, h4, ?_, h6⟩
    rw [setRow_other _ _ _ _ (fun e => hk (by rw [e]; rfl))]; exact h5

/-- What the loop of Read has. -/
structure RI (s : ByteArray) (w : World) (v : Value) (l : List Rec) (rest : ByteArray) (wr : World) : Prop where
  ch : Chain s l rest
  own : wr.ownsRow w.heap.size 44 2 v l.length (recCells l)
  below : Below w.heap.size w wr
theorem RI.start (s : ByteArray) (w : World) : RI s w (.slice none 0 0) [] s w := ⟨.nil, World.ownsRow_nil _ _ _ _, Below.refl _ _⟩

def recRow (r : Rec) : Array Value := #[.string r.1, .string r.2]
def readW (w1 : World) (r : Rec) : World := ((w1.alloc (.cells rec0 44)).setRow w1.heap.size #[.string r.1, .string r.2])

theorem RI.at {s : ByteArray} {w wr w1 : World} {v : Value} {l : List Rec} {rest : ByteArray} (h : RI s w v l rest wr) (hb : Below wr.heap.size wr w1) (r : Rec) :
    (readW w1 r).ownsRow w.heap.size 44 2 v l.length (recCells l) ∧ Below w.heap.size w (readW w1 r) ∧ (readW w1 r).heap.size = w1.heap.size + 1 ∧ w.heap.size ≤ w1.heap.size := by
  have h1 := ownsRow_below h.own hb (Nat.le_refl _)
  have h2 := h1.alloc (.cells rec0 44)
  have h3 : Below w.heap.size w w1 := h.below.trans (hb.mono h.below.size)
  refine ⟨ownsRow_setRow h2 (fun e => ?_) _, below_setRow (h3.alloc h3.size _) h3.size _, ?_, h3.size⟩
  · have := (h1.lt _ e).2; omega
  · unfold readW; rw [size_setRow]; simp

theorem wpList_append_rec {ops : Array Oper} {rest : List Oper} {o : Oper} {a : Act} {Q : Exit → Act → World → Prop} (hgd : o.guard = none) (s x : Operand) (t : TypeId)
    (ho : o.op = .call { callee := .builtin .append, args := #[s, x], argTypes := #[t, t] }) (ht : Try.prog.underlying t = some (.slice 44))
    (B : Nat) (w0 : World) (g : Nat) (hg : g = w0.heap.size) (hB : B ≤ w0.heap.size) (k d : ByteArray) (v : Value) (n : Nat) (xs : List Value) (hs : a.eval s = v) (hown : w0.ownsRow B 44 2 v n xs) (hn : n ≤ 1048576)
    (hx : a.eval x = .slice (some ⟨g, 0, none⟩) 1 1)
    (h : ∀ v' w', w'.ownsRow B 44 2 v' (n + 1) (xs ++ [.string k, .string d]) → (∀ w, Below B w w0 → Below B w w') → wpList Try.prog ops Q rest (a.put o.dst v') w') :
    wpList Try.prog ops Q (o :: rest) a (w0.alloc (.cells #[.string k, .string d] 44)) := by
  subst hg
  obtain ⟨i0, hi0, hz0, hz1, hz2⟩ := info_parts rec_info
  refine wpList_append_own _ hgd s x t ho B 44 i0 _ 2 32 ht hi0 hz0 hz1 hz2 rfl (by decide) v n xs hs (hown.alloc _) ⟨w0.heap.size, 0, none⟩ 1 1 [.string k, .string d] hx rfl ?_ ?_ (by unfold maxLen; omega) (by omega) (by simp; omega) ?_
  · intro j u hj
    have hc : ∀ i, (w0.alloc (.cells #[.string k, .string d] 44)).cell? ⟨w0.heap.size, i, none⟩ = (#[Value.string k, .string d] : Array Value)[i]? := fun i => cell_of_row _ _ _ _ _ _ (heap_alloc_new _ _)
    match j, hj with
    | 0, hj => simp at hj; subst hj; exact hc 0
    | 1, hj => simp at hj; subst hj; exact hc 1
    | (j + 2), hj => simp at hj
  · intro u hu; simp at hu; rcases hu with rfl | rfl <;> rfl
  · intro v' w' ho' hg' _
    exact h v' w' ho' (fun w hw => (hw.alloc hB _).grown hg' (by simp; omega) (fun q hq => (hown.lt q hq).1))

theorem RI.fits {s : ByteArray} {w wr : World} {v : Value} {l : List Rec} {rest : ByteArray} (h : RI s w v l rest wr) (hs : s.size ≤ 1048576) : l.length ≤ 1048576 := by have := h.ch.le; omega

set_option maxRecDepth 100000 in
set_option maxHeartbeats 8000000 in
theorem reads_any (s : ByteArray) (hs : s.size ≤ 1048576) (w : World) :
    Calls Try.prog 26 #[.string s] w fun e w' => ∃ (v : Value) (l : List Rec) (t : ByteArray), e = .returned (.tuple #[v, .int .i64 ((s.size : Int) - t.size)]) ∧ Chain s l t ∧ recV t = none ∧ w'.ownsRow w.heap.size 44 2 v l.length (recCells l) ∧ Below w.heap.size w w' := by
  go_enter Try.func26, Try.ntmps26
  go_wp2
  go_loopw [4, 5] (fun v r wr => ∃ (l : List Rec) (rest : ByteArray), r = .string rest ∧ RI s w v l rest wr) (fun _ r _ => match r with | .string b => b.size | _ => 0)
  case atStart => exact ⟨[], s, rfl, RI.start s w⟩
  case round =>
    obtain ⟨l, rest, rfl, hri⟩ := hrel
    have hle := hri.ch.le
    have hR := record_any rest (by omega) wr
    have Hri := Lib.hid hri; clear hri
    rcases h : recV rest with _ | ⟨⟨k, d⟩, next⟩
    · rw [h] at hR; simp only [recR] at hR
      have H := Lib.hid h; clear h
      go_wp2_with (first
        | (with_reducible refine Lex.wp_region_lex (by kernel_rfl) (by decide +kernel) ?_)
        | (with_reducible refine Lex.fin_on (by kernel_rfl) ?_)
        | (go_at_call 53; refine hR.mono ?_; rintro e w1 ⟨⟨k, d, x, rfl⟩, hb1⟩)
        | (with_reducible refine wpList_store_row rfl 44 (.tmp 6) (.tmp 13) rfl _ _ rfl rfl _ _ (heap_alloc_new _ _) (by kernel_rfl) (by kernel_rfl) (by kernel_rfl) ?_))
      go_ret2
      have hat := Hri.out.at hb1 (k, d)
      exact ⟨_, l, rest, rfl, Hri.out.ch, H.out, hat.1, hat.2.1⟩
    · rw [h] at hR; simp only [recR] at hR
      have H := Lib.hid h; clear h
      go_wp2_with (first
        | (with_reducible refine Lex.wp_region_lex (by kernel_rfl) (by decide +kernel) ?_)
        | (with_reducible refine Lex.fin_on (by kernel_rfl) ?_)
        | (go_at_call 53; refine hR.mono ?_; rintro e w1 ⟨rfl, hb1⟩; have hat := Lib.hid (Hri.out.at hb1 (k, d)))
        | (with_reducible refine wpList_store_row rfl 44 (.tmp 6) (.tmp 13) rfl _ _ rfl rfl _ _ (heap_alloc_new _ _) (by kernel_rfl) (by kernel_rfl) (by kernel_rfl) ?_)
        | (with_reducible refine wpList_load_row rfl 44 (.tmp 6) rfl _ rfl _ #[.string k, .string d] (0, 0) _ (setRow_heap _ _ _ _ _ _ (heap_alloc_new _ _)) rfl rfl (by kernel_rfl) ?_)
        | (at_builtin; refine wpList_append_rec rfl (.tmp 24) (.tmp 26) 46 rfl (by kernel_rfl) w.heap.size _ _ hat.out.2.2.1.symm (by rw [hat.out.2.2.1]; have := hat.out.2.2.2; omega) k d _ _ _ rfl hat.out.1 (Hri.out.fits hs) rfl ?_; intro v' w' hown' hbel'))
      refine ⟨⟨l ++ [(k, d)], next, rfl, .snoc Hri.out.ch H.out, ?_, hbel' _ hat.out.2.1⟩, ?_⟩
      · rw [recCells_snoc]; simpa using hown'
      · exact recV_lt H.out
end Go.Proofs.Ytmflngpgmmgohaa
