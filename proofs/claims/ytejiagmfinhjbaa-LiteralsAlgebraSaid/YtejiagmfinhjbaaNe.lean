/-
  Walks: lowest, following, next.
-/
import Derived.Test.YtejiagmfinhjbaaNd
import Derived.Lib.BufSteps
import Derived.Laws.IdiomStrings
import Derived.Lib.BufferRead
import Derived.OwnWalk
import Derived.Laws.OwnMore
namespace Go.Proofs.Ytejiagmfinhjbaa
open Go.RowKit Go.Ident

theorem u8_info : (Try.prog.info? 5).map (fun i => (i.zero, i.size, i.bytes)) = some (some (.int .u8 0), 1, 1) := by kernel_rfl

/-- A slice of bytes of the call's own, at the head of block g. -/
def BS (base g : Nat) (l : List UInt8) (w : World) : Prop := w.ownsRow base 5 1 (.slice (some ⟨g, 0, none⟩) l.length l.length) l.length (Lib.byteCells l)
section
variable {base g : Nat} {l : List UInt8} {w w' : World}
theorem BS.cell (h : BS base g l w) {i : Nat} (hi : i < l.length) : w.cell? ⟨g, i, none⟩ = some (.int .u8 l[i].toNat) := by
  have := World.ownsRow.cellAt h i (by omega)
  rw [this]
  simp [Lib.byteCells, hi]
theorem BS.frozen (h : BS base g l w) (i : Nat) : w.frozen? ⟨g, i, none⟩ = false := World.ownsRow.frozenAt h i
theorem BS.set (h : BS base g l w) (i : Nat) (c : UInt8) : BS base g (l.set i c) (w.setCell ⟨g, i, none⟩ (.int .u8 c.toNat)) ∧ w.grownBy (w.setCell ⟨g, i, none⟩ (.int .u8 c.toNat)) (some g) := by
  have := World.ownsRow.stored h i (.int .u8 c.toNat)
  refine ⟨?_, this.2⟩
  unfold BS
  rw [List.length_set]
  have e : Lib.byteCells (l.set i c) = (Lib.byteCells l).set i (.int .u8 c.toNat) := by simp [Lib.byteCells, List.map_set]
  rw [e]
  exact this.1
theorem BS.below (h : BS base g l w) (hb : Below w.heap.size w w') : BS base g l w' := ownsRow_below h hb (Nat.le_refl _)
theorem BS.lt (h : BS base g l w) : base ≤ g ∧ g < w.heap.size := World.ownsRow.lt h g rfl
theorem BS.kept {k : Nat} (h : BS base g l w) (hg : w.grownBy w' (some k)) (hne : g ≠ k) : BS base g l w' := World.ownsRow.kept h hg (.inr (by show some g ≠ some k; simpa using hne))
theorem BS.conv (h : BS base g l w) : (convert 60 9 (.slice (some ⟨g, 0, none⟩) l.length l.length)).run Try.prog w = .ok (.string ⟨l.toArray⟩) w :=
  run_convert_bytes_back w 60 9 5 _ _ l (by kernel_rfl) (by kernel_rfl) (by kernel_rfl) (fun j hj => by rw [Lib.addr_add, Nat.zero_add]; exact h.cell hj)
end

/-- The first k bytes of lowest are written. -/
def lowK (kind n k : Nat) : List UInt8 := (List.range n).map fun i => if i < k then lowC kind i else 0
theorem lowK_len (kind n k : Nat) : (lowK kind n k).length = n := by simp [lowK]
theorem low_len (kind n : Nat) : (low kind n).length = n := by simp [low]
theorem lowK_step {kind n k : Nat} : lowK kind n (k + 1) = (lowK kind n k).set k (lowC kind k) := by
  apply List.ext_getElem?
  intro i
  rw [List.getElem?_set]
  simp only [lowK, List.length_map, List.length_range, List.getElem?_map]
  by_cases h : k = i
  · subst h
    by_cases hk : k < n
    · simp [hk]
    · simp [hk]
  · by_cases hi : i < n
    · simp only [h, if_false, List.getElem?_range hi, Option.map_some]
      congr 1
      by_cases h2 : i < k
      · rw [if_pos h2, if_pos (by omega)]
      · rw [if_neg h2, if_neg (by omega)]
    · simp [h, hi]
theorem lowK_end (kind n : Nat) : lowK kind n n = low kind n := by
  unfold lowK low
  apply List.map_congr_left
  intro i hi
  rw [if_pos (by simpa using hi)]
theorem lowK_zero (kind n : Nat) : Lib.byteCells (lowK kind n 0) = List.replicate n (.int .u8 0) := by
  simp only [Lib.byteCells, lowK, List.map_map]
  rw [List.eq_replicate_iff]
  refine ⟨by simp, ?_⟩
  intro b hb
  simp at hb
  exact hb.2.symm

set_option maxRecDepth 100000 in
set_option maxHeartbeats 8000000 in
theorem lowest_any (kind n : Nat) (hk : kind ≤ 1) (hn : n ≤ 100000) (w : World) :
    Calls Try.prog 47 #[.int .i64 kind, .int .i64 n] w fun e w' => ∃ g, e = .returned (.slice (some ⟨g, 0, none⟩) n n) ∧ BS w.heap.size g (low kind n) w' ∧ Below w.heap.size w w' := by
  obtain ⟨i0, hi0, hz0, hz1, hz2⟩ := info_parts u8_info
  go_enter Try.func47, Try.ntmps47
  go_wp2_with (first
    | (refine wpList_make_full w rfl (.tmp 7) (.tmp 7) 60 rfl w.heap.size 5 i0 (.int .u8 0) 1 (by kernel_rfl) hi0 hz0 hz1 .i64 .i64 _ _ n rfl rfl rfl rfl (by rw [hz2]; omega) (by unfold maxLen; omega) (Nat.le_refl _) ?_; intro w1 hown1 hg1))
  have hz : (madeCells (Value.int IntKind.u8 0).cells (n * 1)).toList = Lib.byteCells (lowK kind n 0) := by rw [Nat.mul_one, lowK_zero]; exact toList_madeCells_one _ _
  have hb1 : BS w.heap.size w.heap.size (lowK kind n 0) w1 := by unfold BS; rw [lowK_len, ← hz]; exact hown1
  have hw1 : Below w.heap.size w w1 := (Below.refl _ _).grown hg1 (Nat.le_refl _) (fun _ h => by cases h)
  have HB1 := Lib.hid hb1; have HW1 := Lib.hid hw1
  clear hb1 hw1 hz hown1 hg1
  go_loopw [11] (fun i wr => ∃ k : Nat, k ≤ n ∧ i = .int .i64 k ∧ BS w.heap.size w.heap.size (lowK kind n k) wr ∧ Below w.heap.size w wr) (fun i _ => n - (intOf i).toNat)
  case atStart => exact ⟨0, by omega, rfl, HB1.out, HW1.out⟩
  case round =>
    obtain ⟨k, hkn, rfl, hq, hw⟩ := hrel
    have Hq := Lib.hid hq; have Hw := Lib.hid hw; clear hq hw
    by_cases hlt : k < n
    · have c0 := Hq.out.cell (i := k) (by rw [lowK_len]; exact hlt)
      have f0 := Hq.out.frozen k
      have hset := Hq.out.set k (lowC kind k)
      rw [← lowK_step] at hset
      have hlc : lowC kind k = if kind = 1 then 0 else if k = 0 then 97 else 48 := rfl
      rw [hlc] at hset
      have hgo : ∀ (c : UInt8), BS w.heap.size w.heap.size (lowK kind n (k + 1)) (wr.setCell ⟨w.heap.size, k, none⟩ (.int .u8 c.toNat)) ∧ wr.grownBy (wr.setCell ⟨w.heap.size, k, none⟩ (.int .u8 c.toNat)) (some w.heap.size) →
          BS w.heap.size w.heap.size (lowK kind n (k + 1)) (wr.setCell ⟨w.heap.size, k, none⟩ (.int .u8 c.toNat)) ∧ Below w.heap.size w (wr.setCell ⟨w.heap.size, k, none⟩ (.int .u8 c.toNat)) :=
        fun c h => ⟨h.1, Hw.out.grown h.2 Hw.out.size (fun _ h => by cases h; exact Nat.le_refl _)⟩
      clear hlc
      by_cases h1 : kind = 1
      · subst h1
        rw [if_pos rfl] at hset
        have Hn := Lib.hid (hgo _ hset); clear hset hgo
        go_wp2
        exact ⟨⟨k + 1, by omega, by go_num, Hn.out⟩, by simp [intOf]; omega⟩
      · obtain rfl : kind = 0 := by omega
        rw [if_neg (by decide)] at hset
        by_cases h0 : k = 0
        · subst h0
          rw [if_pos rfl] at hset
          have Hn := Lib.hid (hgo _ hset); clear hset hgo
          go_wp2
          exact ⟨⟨1, by omega, by go_num, Hn.out⟩, by simp [intOf]; omega⟩
        · rw [if_neg h0] at hset
          have d0 : ((k : Int) == 0) = false := by simp; omega
          have Hn := Lib.hid (hgo _ hset); clear hset hgo
          go_wp2
          exact ⟨⟨k + 1, by omega, by go_num, Hn.out⟩, by simp [intOf]; omega⟩
    · obtain rfl : k = n := by omega
      go_wp2
      go_ret
      exact ⟨_, rfl, by rw [← lowK_end]; exact Hq.out, Hw.out⟩

set_option maxRecDepth 100000 in
set_option maxHeartbeats 8000000 in
theorem following_any (kind pos : Nat) (hk : kind ≤ 1) (c : UInt8) (w : World) :
    Calls Try.prog 61 #[.int .i64 kind, .int .i64 pos, .int .u8 c.toNat] w fun e w' => e = .returned (.tuple #[.int .u8 (foll kind pos c).1.toNat, .bool (foll kind pos c).2]) ∧ w' = w := by
  have hc := c.toNat_lt
  have e122 : (c = 122) ↔ c.toNat = 122 := ⟨fun h => by rw [h]; rfl, fun h => UInt8.toNat_inj.1 h⟩
  have e57 : (c = 57) ↔ c.toNat = 57 := ⟨fun h => by rw [h]; rfl, fun h => UInt8.toNat_inj.1 h⟩
  have e95 : (c = 95) ↔ c.toNat = 95 := ⟨fun h => by rw [h]; rfl, fun h => UInt8.toNat_inj.1 h⟩
  have hadd : (c + 1).toNat = (c.toNat + 1) % 256 := by simp [UInt8.toNat_add]
  by_cases h1 : kind = 1
  · subst h1
    have hf : foll 1 pos c = (c + 1, decide (c < 255)) := rfl
    rw [hf]
    have hl : decide (c < 255) = decide ((c.toNat : Int) < 255) := by
      have : (c < 255) ↔ c.toNat < 255 := UInt8.lt_iff_toNat_lt
      simp only [this]
      by_cases h : c.toNat < 255
      · rw [decide_eq_true h, decide_eq_true (by omega)]
      · rw [decide_eq_false h, decide_eq_false (by omega)]
    simp only [hl, hadd]
    clear e122 e57 e95
    go_enter Try.func61, Try.ntmps61
    go_wp2
    go_ret2
    refine ⟨?_, rfl⟩
    simp
  · obtain rfl : kind = 0 := by omega
    have hf : foll 0 pos c = if c = 122 then (0, false) else if 0 < pos ∧ c = 57 then (95, true) else if 0 < pos ∧ c = 95 then (97, true) else (c + 1, true) := rfl
    rw [hf]
    simp only [e122, e57, e95]
    clear hf e122 e57 e95 h1
    by_cases h1 : c.toNat = 122
    · have d1 : ((c.toNat : Int) == 122) = true := by simp; omega
      rw [if_pos h1]
      clear h1
      go_enter Try.func61, Try.ntmps61
      go_wp2
      go_ret2
      exact ⟨rfl, rfl⟩
    rw [if_neg h1]
    have d1 : ((c.toNat : Int) == 122) = false := by simp; omega
    by_cases hp : 0 < pos
    · have dp : decide ((pos : Int) > 0) = true := by simp; omega
      by_cases h2 : c.toNat = 57
      · have d2 : ((c.toNat : Int) == 57) = true := by simp; omega
        rw [if_pos ⟨hp, h2⟩]
        clear h1 h2
        go_enter Try.func61, Try.ntmps61
        go_wp2
        go_ret2
        exact ⟨rfl, rfl⟩
      rw [if_neg (by omega)]
      have d2 : ((c.toNat : Int) == 57) = false := by simp; omega
      by_cases h3 : c.toNat = 95
      · have d3 : ((c.toNat : Int) == 95) = true := by simp; omega
        rw [if_pos ⟨hp, h3⟩]
        clear h1 h2 h3
        go_enter Try.func61, Try.ntmps61
        go_wp2
        go_ret2
        exact ⟨rfl, rfl⟩
      rw [if_neg (by omega)]
      have d3 : ((c.toNat : Int) == 95) = false := by simp; omega
      clear h1 h2 h3
      simp only [hadd]
      go_enter Try.func61, Try.ntmps61
      go_wp2
      go_ret2
      refine ⟨?_, rfl⟩
      simp
    · have dp : decide ((pos : Int) > 0) = false := by simp; omega
      rw [if_neg (by omega), if_neg (by omega)]
      clear h1
      simp only [hadd]
      go_enter Try.func61, Try.ntmps61
      go_wp2
      go_ret2
      refine ⟨?_, rfl⟩
      simp

theorem World.ownsRow_base {w : World} {base base' : Nat} {e : TypeId} {size n : Nat} {v : Value} {xs : List Value} (h : w.ownsRow base e size v n xs) (hb : base' ≤ base) : w.ownsRow base' e size v n xs := by
  refine ⟨h.1, ?_⟩
  rcases h.2 with h2 | ⟨g, cap, cur, h3, h4, h5⟩
  · exact .inl h2
  · exact .inr ⟨g, cap, cur, h3, Nat.le_trans hb h4, h5⟩
theorem idx_ok (j : Nat) : (Value.int .i64 ((j : Int) - 1) = .int .i64 (-1) ∧ j = 0) ∨ ∃ j', j = j' + 1 ∧ Value.int .i64 ((j : Int) - 1) = .int .i64 (j' : Int) := by
  cases j with
  | zero => exact .inl ⟨rfl, rfl⟩
  | succ j => exact .inr ⟨j, rfl, by congr 1; omega⟩
theorem nxtGo_zero (kind : Nat) (l : List UInt8) : nxtGo kind l 0 = none := rfl
theorem nxtGo_yes {kind : Nat} {l : List UInt8} {i : Nat} (h : i < l.length) (hf : (foll kind i l[i]).2 = true) : nxtGo kind l (i + 1) = some (l.set i (foll kind i l[i]).1) := by
  rw [nxtGo]; simp only [List.getD_eq_getElem?_getD, List.getElem?_eq_getElem h, Option.getD_some, hf, if_true]
theorem nxtGo_no {kind : Nat} {l : List UInt8} {i : Nat} (h : i < l.length) (hf : (foll kind i l[i]).2 = false) : nxtGo kind l (i + 1) = nxtGo kind (l.set i (lowC kind i)) i := by
  rw [nxtGo]; simp only [List.getD_eq_getElem?_getD, List.getElem?_eq_getElem h, Option.getD_some, hf]; rfl
/-- What the loop of next has. -/
structure NI (w0 : World) (base g gf : Nat) (kind : Nat) (l : List UInt8) (j : Nat) (l' : List UInt8) (wr : World) : Prop where
  jl : j ≤ l'.length
  len : l'.length = l.length
  go : nxtGo kind l l.length = nxtGo kind l' j
  bs : BS base g l' wr
  fs : BS base gf (low kind l.length) wr
  ne : g ≠ gf
  below : Below base w0 wr
theorem NI.cell {w0 wr : World} {base g gf kind j : Nat} {l l' : List UInt8} (h : NI w0 base g gf kind l (j + 1) l' wr) : ∃ hj : j < l'.length, wr.cell? ⟨g, j, none⟩ = some (.int .u8 l'[j].toNat) ∧ wr.cell? ⟨gf, j, none⟩ = some (.int .u8 (lowC kind j).toNat) ∧ wr.frozen? ⟨g, j, none⟩ = false := by
  have hj : j < l'.length := h.jl
  refine ⟨hj, h.bs.cell hj, ?_, h.bs.frozen j⟩
  rw [h.fs.cell (i := j) (by rw [low_len, ← h.len]; exact hj)]
  simp [low]
theorem NI.next {w0 wr : World} {base g gf kind j : Nat} {l l' : List UInt8} (h : NI w0 base g gf kind l (j + 1) l' wr) (hf : ∀ hj : j < l'.length, (foll kind j l'[j]).2 = false) (hb : base ≤ wr.heap.size) : NI w0 base g gf kind l j (l'.set j (lowC kind j)) (wr.setCell ⟨g, j, none⟩ (.int .u8 (lowC kind j).toNat)) := by
  have hj : j < l'.length := h.jl
  have hs := h.bs.set j (lowC kind j)
  refine ⟨by simp; omega, by simp; exact h.len, h.go.trans (nxtGo_no hj (hf hj)), hs.1, h.fs.kept hs.2 (Ne.symm h.ne), h.ne, ?_⟩
  exact h.below.grown hs.2 hb (fun k hk => by cases hk; exact h.bs.lt.1)

set_option maxRecDepth 100000 in
set_option maxHeartbeats 8000000 in
theorem next_any (kind base g : Nat) (l : List UInt8) (hk : kind ≤ 1) (hl : l.length ≤ 1000) (w : World) (hbs : BS base g l w) :
    Calls Try.prog 48 #[.int .i64 kind, .slice (some ⟨g, 0, none⟩) l.length l.length] w fun e w' => ∃ g', e = .returned (.slice (some ⟨g', 0, none⟩) (nxt kind l).length (nxt kind l).length) ∧ BS base g' (nxt kind l) w' ∧ Below base w w' := by
  have hlt := hbs.lt
  have Hbs := Lib.hid hbs; clear hbs
  have hL1 := lowest_any kind l.length hk (by omega)
  have hL2 := lowest_any kind (l.length + 1) hk (by omega)
  have Hlt := Lib.hid hlt; clear hlt
  go_enter Try.func48, Try.ntmps48
  go_wp2_with (first
    | (go_at_call 47; refine (hL1 _).mono ?_; rintro e w1 ⟨gf, rfl, hb1, hw1⟩))
  have hst : NI w base g gf kind l l.length l w1 := ⟨Nat.le_refl _, rfl, rfl, Hbs.out.below hw1, World.ownsRow_base hb1 (by have := Hlt.out; omega), (by have := Hlt.out.2; have := hb1.lt.1; omega), hw1.mono (by have := Hlt.out; omega)⟩
  have Hst := Lib.hid hst
  clear hst hb1 hw1 hL1
  go_loopw [6] (fun i wr => ∃ (j : Nat) (l' : List UInt8), ((i = .int .i64 (-1) ∧ j = 0) ∨ ∃ j' : Nat, j = j' + 1 ∧ i = .int .i64 j') ∧ NI w base g gf kind l j l' wr) (fun i _ => (intOf i + 1).toNat)
  case atStart => exact ⟨l.length, l, idx_ok _, Hst.out⟩
  case round =>
    obtain ⟨j, l', hj, hni⟩ := hrel
    have hsz : base ≤ wr.heap.size := by have := Hlt.out; have := hni.below.size; omega
    have Hsz := Lib.hid hsz; clear hsz
    rcases hj with ⟨rfl, rfl⟩ | ⟨j', rfl, rfl⟩
    · have hnx : nxt kind l = low kind (l.length + 1) := by
        unfold nxt; rw [hni.go, nxtGo_zero]; rfl
      have Hni := Lib.hid hni; clear hni
      go_wp2_with (first
        | (go_at_call 47; refine (hL2 _).mono ?_; rintro e w2 ⟨g2, rfl, hb2, hw2⟩))
      go_ret
      refine ⟨g2, ?_, ?_, Hni.out.below.trans (hw2.mono Hsz.out)⟩
      · rw [hnx, low_len]; rfl
      · rw [hnx]; exact World.ownsRow_base hb2 Hsz.out
    · obtain ⟨hjl, c0, c1, f0⟩ := hni.cell
      have hjb : j' ≤ 1000 := by have := hni.len; omega
      have hjl2 : j' < l.length := by have := hni.len; omega
      have hF := following_any kind j' hk l'[j']
      cases hf : (foll kind j' l'[j']).2 with
      | true =>
        rw [hf] at hF
        have hnx : nxt kind l = l'.set j' (foll kind j' l'[j']).1 := by
          unfold nxt; rw [hni.go, nxtGo_yes hjl hf]; rfl
        have hln : (nxt kind l).length = l.length := by rw [hnx, List.length_set]; exact hni.len
        have hset := hni.bs.set j' (foll kind j' l'[j']).1
        rw [← hnx] at hset
        have Hni := Lib.hid hni; clear hni
        have Hset := Lib.hid hset; clear hset
        have Hln := Lib.hid hln; clear hln hnx hf
        generalize (foll kind j' l'[j']).1 = c' at *
        go_wp2_with (first
          | (go_at_call 61; refine (hF _).mono ?_; rintro e w2 ⟨rfl, rfl⟩))
        go_ret
        refine ⟨g, ?_, Hset.out.1, Hni.out.below.grown Hset.out.2 Hsz.out (fun k h => by cases h; exact Hlt.out.1)⟩
        rw [Hln.out]; rfl
      | false =>
        rw [hf] at hF
        have hnext := hni.next (fun _ => hf) Hsz.out
        have Hni := Lib.hid hni; clear hni
        have Hnext := Lib.hid hnext; clear hnext hf
        generalize (foll kind j' l'[j']).1 = c' at *
        generalize lowC kind j' = lc at *
        go_wp2_with (first
          | (go_at_call 61; refine (hF _).mono ?_; rintro e w2 ⟨rfl, rfl⟩))
        exact ⟨⟨j', _, idx_ok j', Hnext.out⟩, by simp [intOf]⟩
end Go.Proofs.Ytejiagmfinhjbaa
